/-
  Texts of this claim, joined: QLn7, QLn9, QLawLC.
-/
import Derived.Test.YtlameeijogdckaaGreatQP
namespace Go.Proofs.YtlameeijogdckaaGreat
set_option maxRecDepth 100000
set_option maxHeartbeats 4000000
set_option synthInstance.maxSize 100000
set_option synthInstance.maxHeartbeats 1000000
open Go.RowKit
set_option linter.unusedVariables false
set_option linter.unusedSimpArgs false
theorem LnV.k1 : Hid (LnV 0 1 0) := ⟨by decide, by decide +kernel⟩
theorem lineSideV {w : World} {v : Int} {g1x : Bool} {a1x : Option Addr} {l1x : Nat} {c1x : Nat} {g1y : Bool} {a1y : Option Addr} {l1y : Nat} {c1y : Nat} {g1z : Bool} {a1z : Option Addr} {l1z : Nat} {c1z : Nat} {la lb lc : Int} {g2x : Bool} {a2x : Option Addr} {l2x : Nat} {c2x : Nat} {aa2x : Option Addr} {ll2x : Nat} {cc2x : Nat} {g2y : Bool} {a2y : Option Addr} {l2y : Nat} {c2y : Nat} {aa2y : Option Addr} {ll2y : Nat} {cc2y : Nat} {x y : Rat} {k1x k1y k1z k2x k2y : Nat} [h1x : CZ w (.agg #[.bool g1x, .slice a1x l1x c1x]) la k1x] [h1y : CZ w (.agg #[.bool g1y, .slice a1y l1y c1y]) lb k1y] [h1z : CZ w (.agg #[.bool g1z, .slice a1z l1z c1z]) lc k1z] [h2x : CW w (.agg #[.bool g2x, .slice a2x l2x c2x, .slice aa2x ll2x cc2x]) x k2x] [h2y : CW w (.agg #[.bool g2y, .slice a2y l2y c2y, .slice aa2y ll2y cc2y]) y k2y] (b : k1x ≤ 6000 ∧ k1y ≤ 6000 ∧ k1z ≤ 6000 ∧ k2x ≤ 6000 ∧ k2y ≤ 6000) (hv : Hid (LnV la lb lc)) (hs : Hid (isgn (((la : Int) : Rat) * x + ((lb : Int) : Rat) * y + ((lc : Int) : Rat)).num = v)) :
    Calls Tryz.prog 60 #[.agg #[.bool g1x, .slice a1x l1x c1x, .bool g1y, .slice a1y l1y c1y, .bool g1z, .slice a1z l1z c1z], .agg #[.bool g2x, .slice a2x l2x c2x, .slice aa2x ll2x cc2x, .bool g2y, .slice a2y l2y c2y, .slice aa2y ll2y cc2y]] w (fun e w' => e = .returned (.int .i64 v) ∧ Below w.heap.size w w') := by
  rw [← hs.out]; exact lineSideC (by omega) hv
theorem thKnown {w : World} {g1x : Bool} {a1x : Option Addr} {l1x : Nat} {c1x : Nat} {aa1x : Option Addr} {ll1x : Nat} {cc1x : Nat} {g1y : Bool} {a1y : Option Addr} {l1y : Nat} {c1y : Nat} {aa1y : Option Addr} {ll1y : Nat} {cc1y : Nat} {x1 y1 : Rat} {g2x : Bool} {a2x : Option Addr} {l2x : Nat} {c2x : Nat} {aa2x : Option Addr} {ll2x : Nat} {cc2x : Nat} {g2y : Bool} {a2y : Option Addr} {l2y : Nat} {c2y : Nat} {aa2y : Option Addr} {ll2y : Nat} {cc2y : Nat} {x2 y2 : Rat} {k1x k1y k2x k2y : Nat} [h1x : CW w (.agg #[.bool g1x, .slice a1x l1x c1x, .slice aa1x ll1x cc1x]) x1 k1x] [h1y : CW w (.agg #[.bool g1y, .slice a1y l1y c1y, .slice aa1y ll1y cc1y]) y1 k1y] [h2x : CW w (.agg #[.bool g2x, .slice a2x l2x c2x, .slice aa2x ll2x cc2x]) x2 k2x] [h2y : CW w (.agg #[.bool g2y, .slice a2y l2y c2y, .slice aa2y ll2y cc2y]) y2 k2y] (b : k1x ≤ 200 ∧ k1y ≤ 200 ∧ k2x ≤ 200 ∧ k2y ≤ 200) (e1 : Hid (x1 = ((0 : Int) : Rat) ∧ y1 = ((0 : Int) : Rat) ∧ x2 = ((2 : Int) : Rat) ∧ y2 = ((0 : Int) : Rat))) :
    Calls Tryz.prog 32 #[.agg #[.bool g1x, .slice a1x l1x c1x, .slice aa1x ll1x cc1x, .bool g1y, .slice a1y l1y c1y, .slice aa1y ll1y cc1y], .agg #[.bool g2x, .slice a2x l2x c2x, .slice aa2x ll2x cc2x, .bool g2y, .slice a2y l2y c2y, .slice aa2y ll2y cc2y]] w (LZBRet w 0 1 0 true (40 * (k1x + k1y + k2x + k2y) + 600)) := by
  obtain ⟨rfl, rfl, rfl, rfl⟩ := e1
  have h0 : Hid (¬ (thA ((0 : Int) : Rat) ((0 : Int) : Rat) = 0 ∧ ((2 : Int) : Rat) - ((0 : Int) : Rat) = 0)) := fun h => absurd h.2 (by decide +kernel)
  have key : LZBRet w 0 1 0 true (40 * (k1x + k1y + k2x + k2y) + 600) = LZBRet w (lnK (thA ((0 : Int) : Rat) ((0 : Int) : Rat)) (thA ((0 : Int) : Rat) ((0 : Int) : Rat)) (((2 : Int) : Rat) - ((0 : Int) : Rat)) (thC ((0 : Int) : Rat) ((0 : Int) : Rat) ((2 : Int) : Rat) ((0 : Int) : Rat))).num (lnK (((2 : Int) : Rat) - ((0 : Int) : Rat)) (thA ((0 : Int) : Rat) ((0 : Int) : Rat)) (((2 : Int) : Rat) - ((0 : Int) : Rat)) (thC ((0 : Int) : Rat) ((0 : Int) : Rat) ((2 : Int) : Rat) ((0 : Int) : Rat))).num (lnK (thC ((0 : Int) : Rat) ((0 : Int) : Rat) ((2 : Int) : Rat) ((0 : Int) : Rat)) (thA ((0 : Int) : Rat) ((0 : Int) : Rat)) (((2 : Int) : Rat) - ((0 : Int) : Rat)) (thC ((0 : Int) : Rat) ((0 : Int) : Rat) ((2 : Int) : Rat) ((0 : Int) : Rat))).num true (40 * (k1x + k1y + k2x + k2y) + 600) := by
    rw [show (lnK (thA ((0 : Int) : Rat) ((0 : Int) : Rat)) (thA ((0 : Int) : Rat) ((0 : Int) : Rat)) (((2 : Int) : Rat) - ((0 : Int) : Rat)) (thC ((0 : Int) : Rat) ((0 : Int) : Rat) ((2 : Int) : Rat) ((0 : Int) : Rat))).num = 0 by decide +kernel, show (lnK (((2 : Int) : Rat) - ((0 : Int) : Rat)) (thA ((0 : Int) : Rat) ((0 : Int) : Rat)) (((2 : Int) : Rat) - ((0 : Int) : Rat)) (thC ((0 : Int) : Rat) ((0 : Int) : Rat) ((2 : Int) : Rat) ((0 : Int) : Rat))).num = 1 by decide +kernel, show (lnK (thC ((0 : Int) : Rat) ((0 : Int) : Rat) ((2 : Int) : Rat) ((0 : Int) : Rat)) (thA ((0 : Int) : Rat) ((0 : Int) : Rat)) (((2 : Int) : Rat) - ((0 : Int) : Rat)) (thC ((0 : Int) : Rat) ((0 : Int) : Rat) ((2 : Int) : Rat) ((0 : Int) : Rat))).num = 0 by decide +kernel]
  rw [key]
  exact lineThroughOk (by omega) h0
theorem known05C {w : World} : Calls Tryz.prog 24 #[] w fun e w' => e = .returned (.bool true) ∧ Below w.heap.size w w' := by
  have H1 : Hid (isgn (((0 : Int) : Rat) * ((5 : Int) : Rat) + ((1 : Int) : Rat) * ((1 : Int) : Rat) + ((0 : Int) : Rat)).num = 1) := by show _ = _; decide +kernel
  go_enter Tryz.func24, Tryz.ntmps24
  go_wp2_with (first | (go_at_call 21; (with_reducible refine Calls.cPA (fromIntsC (by omega)) ?_); intros) | (go_at_call 32; (with_reducible refine Calls.cLZB (thKnown (by omega) (Lib.hid (And.intro rfl (And.intro rfl (And.intro rfl rfl))))) ?_); intros))
  refine region_cls (by kernel_rfl) [] (fun hHeld => ?_)
  refine wpAnyH_take (i := 0) (v := ?z673) (by simp; rfl) (by kernel_rfl) (by kernel_rfl) (by kernel_rfl) (by exact fun _ _ _ h => h) (Or.inl ⟨by rfl, ?y673⟩) hHeld ?_
  case y673 => intro _ h; have := Ex1.mk h; go_simp; try with_reducible rfl
  try simp only [Act.put, List.setIfInBounds_toArray, List.set_cons_zero, List.set_cons_succ]
  refine wpAnyH_take (i := 1) (v := ?z674) (by simp; rfl) (by kernel_rfl) (by kernel_rfl) (by kernel_rfl) (by exact fun _ _ _ h => h) (Or.inl ⟨by rfl, ?y674⟩) hHeld ?_
  case y674 => intro _ h; have := Ex1.mk h; go_simp; try with_reducible rfl
  try simp only [Act.put, List.setIfInBounds_toArray, List.set_cons_zero, List.set_cons_succ]
  refine wpAnyH_take (i := 2) (v := ?z675) (by simp; rfl) (by kernel_rfl) (by kernel_rfl) (by kernel_rfl) (by exact fun _ _ _ h => h) (Or.inl ⟨by rfl, ?y675⟩) hHeld ?_
  case y675 => intro _ h; have := Ex1.mk h; go_simp; try with_reducible rfl
  try simp only [Act.put, List.setIfInBounds_toArray, List.set_cons_zero, List.set_cons_succ]
  refine wpAnyH_ready (rs := [3]) (by kernel_rfl) (by simp) ?_
  refine AllReadyH.cons (by simp; rfl) (fun K hK => ?_) AllReadyH.nil
  go_simp
  (go_at_call 96; (with_reducible refine Calls.cE (validC (by omega) LnV.k1) ?_); intros)
  refine hK.out _ _ inferInstance ?_
  clear hHeld hK K; intro hHeld
  try simp only [Act.put, List.setIfInBounds_toArray, List.set_cons_zero, List.set_cons_succ]
  refine wpAnyH_take (i := 4) (v := ?z676) (by simp; rfl) (by kernel_rfl) (by kernel_rfl) (by kernel_rfl) (by exact fun _ _ _ h => h) (Or.inl ⟨by rfl, ?y676⟩) hHeld ?_
  case y676 => intro _ h; have := Ex1.mk h; go_simp; try with_reducible rfl
  try simp only [Act.put, List.setIfInBounds_toArray, List.set_cons_zero, List.set_cons_succ]
  refine wpAnyH_take (i := 5) (v := ?z677) (by simp; rfl) (by kernel_rfl) (by kernel_rfl) (by kernel_rfl) (by exact fun _ _ _ h => h) (Or.inl ⟨by rfl, ?y677⟩) hHeld ?_
  case y677 => intro _ h; have := Ex1.mk h; go_simp; try with_reducible rfl
  try simp only [Act.put, List.setIfInBounds_toArray, List.set_cons_zero, List.set_cons_succ]
  refine wpAnyH_take (i := 6) (v := ?z678) (by simp; rfl) (by kernel_rfl) (by kernel_rfl) (by kernel_rfl) (by exact fun _ _ _ h => h) (Or.inl ⟨by rfl, ?y678⟩) hHeld ?_
  case y678 => intro _ h; have := Ex1.mk h; go_simp; try with_reducible rfl
  try simp only [Act.put, List.setIfInBounds_toArray, List.set_cons_zero, List.set_cons_succ]
  refine wpAnyH_ready (rs := [7]) (by kernel_rfl) (by simp) ?_
  refine AllReadyH.cons (by simp; rfl) (fun K hK => ?_) AllReadyH.nil
  go_simp
  (go_at_call 21; (with_reducible refine Calls.cPA (fromIntsC (by omega)) ?_); intros)
  refine hK.out _ _ inferInstance ?_
  clear hHeld hK K; intro hHeld
  try simp only [Act.put, List.setIfInBounds_toArray, List.set_cons_zero, List.set_cons_succ]
  refine wpAnyH_ready (rs := [8]) (by kernel_rfl) (by simp) ?_
  refine AllReadyH.cons (by simp; rfl) (fun K hK => ?_) AllReadyH.nil
  go_simp
  (go_at_call 60; (with_reducible refine Calls.cE (lineSideV (by omega) LnV.k1 H1) ?_); intros)
  refine hK.out _ _ inferInstance ?_
  clear hHeld hK K; intro hHeld
  try simp only [Act.put, List.setIfInBounds_toArray, List.set_cons_zero, List.set_cons_succ]
  refine wpAnyH_take (i := 9) (v := ?z679) (by simp; rfl) (by kernel_rfl) (by kernel_rfl) (by kernel_rfl) (by exact fun _ _ _ h => h) (Or.inl ⟨by rfl, ?y679⟩) hHeld ?_
  case y679 => intro _ h; have := Ex1.mk h; go_simp; try with_reducible rfl
  try simp only [Act.put, List.setIfInBounds_toArray, List.set_cons_zero, List.set_cons_succ]
  refine wpAnyH_take (i := 10) (v := ?z680) (by simp; rfl) (by kernel_rfl) (by kernel_rfl) (by kernel_rfl) (by exact fun _ _ _ h => h) (Or.inl ⟨by rfl, ?y680⟩) hHeld ?_
  case y680 => intro _ h; have := Ex1.mk h; go_simp; try with_reducible rfl
  try simp only [Act.put, List.setIfInBounds_toArray, List.set_cons_zero, List.set_cons_succ]
  refine wpAnyH_take (i := 11) (v := ?z681) (by simp; rfl) (by kernel_rfl) (by kernel_rfl) (by kernel_rfl) (by exact fun _ _ _ h => h) (Or.inl ⟨by rfl, ?y681⟩) hHeld ?_
  case y681 => intro _ h; have := Ex1.mk h; go_simp; try with_reducible rfl
  try simp only [Act.put, List.setIfInBounds_toArray, List.set_cons_zero, List.set_cons_succ]
  refine wpAnyH_take (i := 12) (v := ?z682) (by simp; rfl) (by kernel_rfl) (by kernel_rfl) (by kernel_rfl) (by exact fun _ _ _ h => h) (Or.inl ⟨by rfl, ?y682⟩) hHeld ?_
  case y682 => intro _ h; have := Ex1.mk h; go_simp; try with_reducible rfl
  try simp only [Act.put, List.setIfInBounds_toArray, List.set_cons_zero, List.set_cons_succ]
  refine wpAnyH_ready (rs := [13]) (by kernel_rfl) (by simp) ?_
  refine AllReadyH.cons (by simp; rfl) (fun K hK => ?_) AllReadyH.nil
  go_simp
  (go_at_call 63; (with_reducible refine Calls.cPA (lineDirectionC (by omega) LnV.k1) ?_); intros)
  refine hK.out _ _ inferInstance ?_
  clear hHeld hK K; intro hHeld
  try simp only [Act.put, List.setIfInBounds_toArray, List.set_cons_zero, List.set_cons_succ]
  refine wpAnyH_ready (rs := [14]) (by kernel_rfl) (by simp) ?_
  refine AllReadyH.cons (by simp; rfl) (fun K hK => ?_) AllReadyH.nil
  go_simp
  (go_at_call 22; (with_reducible refine Calls.cPQ (refXyC (by omega)) ?_); intros)
  refine hK.out _ _ inferInstance ?_
  clear hHeld hK K; intro hHeld
  try simp only [Act.put, List.setIfInBounds_toArray, List.set_cons_zero, List.set_cons_succ]
  refine wpAnyH_ready (rs := [15]) (by kernel_rfl) (by simp) ?_
  refine AllReadyH.cons (by simp; rfl) (fun K hK => ?_) AllReadyH.nil
  go_simp
  (go_at_call 33; (with_reducible refine Calls.cPA (toPC (by omega)) ?_); intros)
  refine hK.out _ _ inferInstance ?_
  clear hHeld hK K; intro hHeld
  try simp only [Act.put, List.setIfInBounds_toArray, List.set_cons_zero, List.set_cons_succ]
  refine wpAnyH_ready (rs := [16]) (by kernel_rfl) (by simp) ?_
  refine AllReadyH.cons (by simp; rfl) (fun K hK => ?_) AllReadyH.nil
  go_simp
  (go_at_call 74; (with_reducible refine Calls.cE (samePC rfl (by decide +kernel)) ?_); intros)
  refine hK.out _ _ inferInstance ?_
  clear hHeld hK K; intro hHeld
  try simp only [Act.put, List.setIfInBounds_toArray, List.set_cons_zero, List.set_cons_succ]
  refine wpAnyH_take (i := 17) (v := ?z683) (by simp; rfl) (by kernel_rfl) (by kernel_rfl) (by kernel_rfl) (by exact fun _ _ _ h => h) (Or.inl ⟨by rfl, ?y683⟩) hHeld ?_
  case y683 => intro _ h; have := Ex1.mk h; go_simp; try with_reducible rfl
  try simp only [Act.put, List.setIfInBounds_toArray, List.set_cons_zero, List.set_cons_succ]
  refine wpAnyH_take (i := 18) (v := ?z684) (by simp; rfl) (by kernel_rfl) (by kernel_rfl) (by kernel_rfl) (by exact fun _ _ _ h => h) (Or.inl ⟨by rfl, ?y684⟩) hHeld ?_
  case y684 => intro _ h; have := Ex1.mk h; go_simp; try with_reducible rfl
  try simp only [Act.put, List.setIfInBounds_toArray, List.set_cons_zero, List.set_cons_succ]
  refine wpAnyH_done (by kernel_rfl) ?_ _
  clear hHeld
  go_wp2
  go_ret
  exact E.fin rfl
end Go.Proofs.YtlameeijogdckaaGreat
namespace Go.Proofs.YtlameeijogdckaaGreat
set_option maxRecDepth 100000
set_option maxHeartbeats 4000000
set_option synthInstance.maxSize 100000
set_option synthInstance.maxHeartbeats 1000000
open Go.RowKit
set_option linter.unusedVariables false
set_option linter.unusedSimpArgs false
theorem over_val {x y : Rat} {g : Bool} (hg : g = decide (y.num < 0)) (hy : y ≠ 0) : mkRat (x.num * sgn g y.den) (x.den * y.num.natAbs) = x / y := by
  rw [Rat.div_def, ← inv_sgn hy, hg]
  conv => rhs; rw [← Rat.mkRat_self x]
  rw [Rat.mkRat_mul_mkRat]
theorem dd_eq (a b : Rat) : b * b + -a * -a = a * a + b * b := by grind
theorem dd_ne {a b c : Int} (h : LnV a b c) : Hid (((b : Int) : Rat) * ((b : Int) : Rat) + -((a : Int) : Rat) * -((a : Int) : Rat) ≠ 0) := by
  show _ ≠ _
  rw [dd_eq]; exact sq_ne h.1
theorem base_x {a b c : Rat} : a * (-c / (a * a + b * b)) = -(c / (b * b + -a * -a)) * a := by
  rw [dd_eq, Rat.div_def, Rat.div_def]; grind
theorem base_y {a b c : Rat} : b * (-c / (a * a + b * b)) = -(c / (b * b + -a * -a)) * b := by
  rw [dd_eq, Rat.div_def, Rat.div_def]; grind
theorem at_x {a b c t : Rat} : a * (-c / (a * a + b * b)) + b * t = -(c / (b * b + -a * -a)) * a + t * b := by
  rw [base_x (b := b)]; grind
theorem at_y {a b c t : Rat} : b * (-c / (a * a + b * b)) + -a * t = -(c / (b * b + -a * -a)) * b + t * -a := by
  rw [base_y (a := a)]; grind
theorem par_x {a b x y : Rat} : (b * x + -a * y) / (b * b + -a * -a) = (x * b + y * -a) / (b * b + -a * -a) := by
  rw [show b * x + -a * y = x * b + y * -a by grind]
theorem numOverC {w : World} {g1 : Bool} {a1 : Option Addr} {l1 : Nat} {c1 : Nat} {aa1 : Option Addr} {ll1 : Nat} {cc1 : Nat} {x : Rat} {g2 : Bool} {a2 : Option Addr} {l2 : Nat} {c2 : Nat} {aa2 : Option Addr} {ll2 : Nat} {cc2 : Nat} {y : Rat} {k1 k2 : Nat} [h1 : CQ w (.agg #[.bool g1, .slice a1 l1 c1, .slice aa1 ll1 cc1]) x k1] [h2 : CQ w (.agg #[.bool g2, .slice a2 l2 c2, .slice aa2 ll2 cc2]) y k2] (b : k1 ≤ 30000 ∧ k2 ≤ 30000) (hy : y ≠ 0) :
    Calls Tryz.prog 144 #[.agg #[.bool g1, .slice a1 l1 c1, .slice aa1 ll1 cc1], .agg #[.bool g2, .slice a2 l2 c2, .slice aa2 ll2 cc2]] w (CQRet w (x / y) (k1 + k2 + 8)) := by
  have i1 := h1.num
  have i2 := h2.num
  have hg := (zz_of i2).1
  have i3 : CN w (.slice a2 l2 c2) y.num.natAbs k2 := ⟨(zz_of i2).2⟩
  have HE := Lib.hid (over_val (x := x) hg hy)
  have hm : x.den * y.num.natAbs ≠ 0 := Nat.mul_ne_zero x.den_nz (fun h => hy (Rat.num_eq_zero.1 (Int.natAbs_eq_zero.1 h)))
  clear hg hy
  go_enter Tryz.func144, Tryz.ntmps144
  go_upto_region 1 with fail
  go_cut [5] from 6 to 14 (fun tv wx => ∃ (b : Nat) (g : Bool) (a : Option Addr) (l c : Nat), tv = .pointer (some ⟨b, 0, none⟩) ∧ Bx wx b 34 [.bool g, .slice a l c] ∧ CZ wx (.agg #[.bool g, .slice a l c]) (x.num * sgn g2 y.den) (k1 + k2 + 2) ∧ NeN b (w.heap.size + 1 + 1) ∧ Kp1 (((w.alloc (.cells #[.bool g1, .slice a1 l1 c1, .slice aa1 ll1 cc1] 36)).alloc (.cells #[.bool g2, .slice a2 l2 c2, .slice aa2 ll2 cc2] 36)).alloc (.cells #[.bool false, .slice none 0 0, .slice none 0 0] 36)) wx)
  case first =>
    refine region_cls (by kernel_rfl) [] (fun hHeld => ?_)
    refine wpAnyH_take (i := 0) (v := ?z698) (by simp; rfl) (by kernel_rfl) (by kernel_rfl) (by kernel_rfl) (by exact fun _ _ _ h => h) (Or.inl ⟨by rfl, ?y698⟩) hHeld ?_
    case y698 => intro _ h; have := Ex1.mk h; go_simp; try with_reducible rfl
    try simp only [Act.put, List.setIfInBounds_toArray, List.set_cons_zero, List.set_cons_succ]
    refine wpAnyH_take (i := 1) (v := ?z699) (by simp; rfl) (by kernel_rfl) (by kernel_rfl) (by kernel_rfl) (by exact fun _ _ _ h => h) (Or.inl ⟨by rfl, ?y699⟩) hHeld ?_
    case y699 => intro _ h; have := Ex1.mk h; go_simp; try with_reducible rfl
    try simp only [Act.put, List.setIfInBounds_toArray, List.set_cons_zero, List.set_cons_succ]
    refine wpAnyH_take (i := 2) (v := ?z700) (by simp; rfl) (by kernel_rfl) (by kernel_rfl) (by kernel_rfl) (by exact fun _ _ _ h => h) (Or.inl ⟨by rfl, ?y700⟩) hHeld ?_
    case y700 => intro _ h; have := Ex1.mk h; go_simp; try with_reducible rfl
    try simp only [Act.put, List.setIfInBounds_toArray, List.set_cons_zero, List.set_cons_succ]
    refine wpAnyH_take (i := 3) (v := ?z701) (by simp; rfl) (by kernel_rfl) (by kernel_rfl) (by kernel_rfl) (by exact fun _ _ _ h => h) (Or.inl ⟨by rfl, ?y701⟩) hHeld ?_
    case y701 => intro _ h; have := Ex1.mk h; go_simp; try with_reducible rfl
    try simp only [Act.put, List.setIfInBounds_toArray, List.set_cons_zero, List.set_cons_succ]
    refine wpAnyH_take (i := 4) (v := ?z702) (by simp; rfl) (by kernel_rfl) (by kernel_rfl) (by kernel_rfl) (by exact fun _ _ _ h => h) (Or.inl ⟨by rfl, ?y702⟩) hHeld ?_
    case y702 => intro _ h; have := Ex1.mk h; go_simp; try with_reducible rfl
    try simp only [Act.put, List.setIfInBounds_toArray, List.set_cons_zero, List.set_cons_succ]
    refine wpAnyH_take (i := 5) (v := ?z703) (by simp; rfl) (by kernel_rfl) (by kernel_rfl) (by kernel_rfl) (by exact fun _ _ _ h => h) (Or.inl ⟨by rfl, ?y703⟩) hHeld ?_
    case y703 => intro _ h; have := Ex1.mk h; go_simp; try with_reducible rfl
    try simp only [Act.put, List.setIfInBounds_toArray, List.set_cons_zero, List.set_cons_succ]
    refine wpAnyH_ready (rs := [6, 9]) (by kernel_rfl) (by simp) ?_
    refine AllReadyH.cons (by simp; rfl) (fun K hK => ?_) (AllReadyH.cons (by simp; rfl) (fun K hK => ?_) AllReadyH.nil)
    go_simp
    (go_at_call 109; (with_reducible refine Calls.cN (numDenC) ?_); intros)
    refine hK.out _ _ inferInstance ?_
    clear hHeld hK K
    intro hHeld
    try simp only [Act.put, List.setIfInBounds_toArray, List.set_cons_zero, List.set_cons_succ]
    refine wpAnyH_ready (rs := [7, 9]) (by kernel_rfl) (by simp) ?_
    refine AllReadyH.cons (by simp; rfl) (fun K hK => ?_) (AllReadyH.cons (by simp; rfl) (fun K hK => ?_) AllReadyH.nil)
    go_simp
    (go_at_call 102; (with_reducible refine Calls.cSg (makeC) ?_); intros)
    refine hK.out _ _ inferInstance ?_
    clear hHeld hK K
    intro hHeld
    try simp only [Act.put, List.setIfInBounds_toArray, List.set_cons_zero, List.set_cons_succ]
    refine wpAnyH_ready (rs := [8, 9]) (by kernel_rfl) (by simp) ?_
    refine AllReadyH.cons (by simp; rfl) (fun K hK => ?_) (AllReadyH.cons (by simp; rfl) (fun K hK => ?_) AllReadyH.nil)
    go_simp
    (go_at_call 130; (with_reducible refine Calls.cZ (numMulC (by omega)) ?_); intros)
    refine hK.out _ _ inferInstance ?_
    clear hHeld hK K
    intro hHeld
    try simp only [Act.put, List.setIfInBounds_toArray, List.set_cons_zero, List.set_cons_succ]
    refine wpAnyH_ready (rs := [9]) (by kernel_rfl) (by simp) ?_
    refine AllReadyH.cons (by simp; rfl) (fun K hK => ?_) AllReadyH.nil
    go_simp
    refine hK.out _ _ inferInstance ?_
    clear hHeld hK K
    intro hHeld
    try simp only [Act.put, List.setIfInBounds_toArray, List.set_cons_zero, List.set_cons_succ]
    refine wpAnyH_ready (rs := [10]) (by kernel_rfl) (by simp) ?_
    refine AllReadyH.cons (by simp; rfl) (fun K hK => ?_) AllReadyH.nil
    go_simp
    refine hK.out _ _ inferInstance ?_
    clear hHeld hK K
    intro hHeld
    try simp only [Act.put, List.setIfInBounds_toArray, List.set_cons_zero, List.set_cons_succ]
    refine wpAnyH_done (by kernel_rfl) ?_ _
    clear hHeld
    go_wp2_with fail
    go_meet
    exact ⟨_, _, _, _, _, rfl, inferInstance, CZ.cast inferInstance rfl (by omega), inferInstance, ⟨(inferInstance : Kp (((w.alloc (.cells #[.bool g1, .slice a1 l1 c1, .slice aa1 ll1 cc1] 36)).alloc (.cells #[.bool g2, .slice a2 l2 c2, .slice aa2 ll2 cc2] 36)).alloc (.cells #[.bool false, .slice none 0 0, .slice none 0 0] 36)) _).out⟩⟩
    go_simp
    refine hK.out _ _ inferInstance ?_
    clear hHeld hK K
    intro hHeld
    try simp only [Act.put, List.setIfInBounds_toArray, List.set_cons_zero, List.set_cons_succ]
    refine wpAnyH_ready (rs := [8]) (by kernel_rfl) (by simp) ?_
    refine AllReadyH.cons (by simp; rfl) (fun K hK => ?_) AllReadyH.nil
    go_simp
    (go_at_call 130; (with_reducible refine Calls.cZ (numMulC (by omega)) ?_); intros)
    refine hK.out _ _ inferInstance ?_
    clear hHeld hK K
    intro hHeld
    try simp only [Act.put, List.setIfInBounds_toArray, List.set_cons_zero, List.set_cons_succ]
    refine wpAnyH_ready (rs := [10]) (by kernel_rfl) (by simp) ?_
    refine AllReadyH.cons (by simp; rfl) (fun K hK => ?_) AllReadyH.nil
    go_simp
    refine hK.out _ _ inferInstance ?_
    clear hHeld hK K
    intro hHeld
    try simp only [Act.put, List.setIfInBounds_toArray, List.set_cons_zero, List.set_cons_succ]
    refine wpAnyH_done (by kernel_rfl) ?_ _
    clear hHeld
    go_wp2_with fail
    go_meet
    exact ⟨_, _, _, _, _, rfl, inferInstance, CZ.cast inferInstance rfl (by omega), inferInstance, ⟨(inferInstance : Kp (((w.alloc (.cells #[.bool g1, .slice a1 l1 c1, .slice aa1 ll1 cc1] 36)).alloc (.cells #[.bool g2, .slice a2 l2 c2, .slice aa2 ll2 cc2] 36)).alloc (.cells #[.bool false, .slice none 0 0, .slice none 0 0] 36)) _).out⟩⟩
    go_simp
    refine hK.out _ _ inferInstance ?_
    clear hHeld hK K
    intro hHeld
    try simp only [Act.put, List.setIfInBounds_toArray, List.set_cons_zero, List.set_cons_succ]
    refine wpAnyH_ready (rs := [7]) (by kernel_rfl) (by simp) ?_
    refine AllReadyH.cons (by simp; rfl) (fun K hK => ?_) AllReadyH.nil
    go_simp
    (go_at_call 102; (with_reducible refine Calls.cSg (makeC) ?_); intros)
    refine hK.out _ _ inferInstance ?_
    clear hHeld hK K
    intro hHeld
    try simp only [Act.put, List.setIfInBounds_toArray, List.set_cons_zero, List.set_cons_succ]
    refine wpAnyH_ready (rs := [8]) (by kernel_rfl) (by simp) ?_
    refine AllReadyH.cons (by simp; rfl) (fun K hK => ?_) AllReadyH.nil
    go_simp
    (go_at_call 130; (with_reducible refine Calls.cZ (numMulC (by omega)) ?_); intros)
    refine hK.out _ _ inferInstance ?_
    clear hHeld hK K
    intro hHeld
    try simp only [Act.put, List.setIfInBounds_toArray, List.set_cons_zero, List.set_cons_succ]
    refine wpAnyH_ready (rs := [10]) (by kernel_rfl) (by simp) ?_
    refine AllReadyH.cons (by simp; rfl) (fun K hK => ?_) AllReadyH.nil
    go_simp
    refine hK.out _ _ inferInstance ?_
    clear hHeld hK K
    intro hHeld
    try simp only [Act.put, List.setIfInBounds_toArray, List.set_cons_zero, List.set_cons_succ]
    refine wpAnyH_done (by kernel_rfl) ?_ _
    clear hHeld
    go_wp2_with fail
    go_meet
    exact ⟨_, _, _, _, _, rfl, inferInstance, CZ.cast inferInstance rfl (by omega), inferInstance, ⟨(inferInstance : Kp (((w.alloc (.cells #[.bool g1, .slice a1 l1 c1, .slice aa1 ll1 cc1] 36)).alloc (.cells #[.bool g2, .slice a2 l2 c2, .slice aa2 ll2 cc2] 36)).alloc (.cells #[.bool false, .slice none 0 0, .slice none 0 0] 36)) _).out⟩⟩
    go_simp
    refine hK.out _ _ inferInstance ?_
    clear hHeld hK K
    intro hHeld
    try simp only [Act.put, List.setIfInBounds_toArray, List.set_cons_zero, List.set_cons_succ]
    refine wpAnyH_ready (rs := [6]) (by kernel_rfl) (by simp) ?_
    refine AllReadyH.cons (by simp; rfl) (fun K hK => ?_) AllReadyH.nil
    go_simp
    (go_at_call 109; (with_reducible refine Calls.cN (numDenC) ?_); intros)
    refine hK.out _ _ inferInstance ?_
    clear hHeld hK K
    intro hHeld
    try simp only [Act.put, List.setIfInBounds_toArray, List.set_cons_zero, List.set_cons_succ]
    refine wpAnyH_ready (rs := [7]) (by kernel_rfl) (by simp) ?_
    refine AllReadyH.cons (by simp; rfl) (fun K hK => ?_) AllReadyH.nil
    go_simp
    (go_at_call 102; (with_reducible refine Calls.cSg (makeC) ?_); intros)
    refine hK.out _ _ inferInstance ?_
    clear hHeld hK K
    intro hHeld
    try simp only [Act.put, List.setIfInBounds_toArray, List.set_cons_zero, List.set_cons_succ]
    refine wpAnyH_ready (rs := [8]) (by kernel_rfl) (by simp) ?_
    refine AllReadyH.cons (by simp; rfl) (fun K hK => ?_) AllReadyH.nil
    go_simp
    (go_at_call 130; (with_reducible refine Calls.cZ (numMulC (by omega)) ?_); intros)
    refine hK.out _ _ inferInstance ?_
    clear hHeld hK K
    intro hHeld
    try simp only [Act.put, List.setIfInBounds_toArray, List.set_cons_zero, List.set_cons_succ]
    refine wpAnyH_ready (rs := [10]) (by kernel_rfl) (by simp) ?_
    refine AllReadyH.cons (by simp; rfl) (fun K hK => ?_) AllReadyH.nil
    go_simp
    refine hK.out _ _ inferInstance ?_
    clear hHeld hK K
    intro hHeld
    try simp only [Act.put, List.setIfInBounds_toArray, List.set_cons_zero, List.set_cons_succ]
    refine wpAnyH_done (by kernel_rfl) ?_ _
    clear hHeld
    go_wp2_with fail
    go_meet
    exact ⟨_, _, _, _, _, rfl, inferInstance, CZ.cast inferInstance rfl (by omega), inferInstance, ⟨(inferInstance : Kp (((w.alloc (.cells #[.bool g1, .slice a1 l1 c1, .slice aa1 ll1 cc1] 36)).alloc (.cells #[.bool g2, .slice a2 l2 c2, .slice aa2 ll2 cc2] 36)).alloc (.cells #[.bool false, .slice none 0 0, .slice none 0 0] 36)) _).out⟩⟩
  case rest =>
    obtain ⟨b0, g, a, l, c, rfl, j1, j2, j4, j3⟩ := hcut
    go_wp2_with fail
    refine region_cls (by kernel_rfl) [w.heap.size + 1 + 1] (fun hHeld => ?_)
    refine wpAnyH_take (i := 0) (v := ?z704) (by simp; rfl) (by kernel_rfl) (by kernel_rfl) (by kernel_rfl) (by exact fun _ _ _ h => h) (Or.inl ⟨by rfl, ?y704⟩) hHeld ?_
    case y704 => intro _ h; have := Ex1.mk h; go_simp; try with_reducible rfl
    try simp only [Act.put, List.setIfInBounds_toArray, List.set_cons_zero, List.set_cons_succ]
    refine wpAnyH_take (i := 1) (v := ?z705) (by simp; rfl) (by kernel_rfl) (by kernel_rfl) (by kernel_rfl) (by exact fun _ _ _ h => h) (Or.inl ⟨by rfl, ?y705⟩) hHeld ?_
    case y705 => intro _ h; have := Ex1.mk h; go_simp; try with_reducible rfl
    try simp only [Act.put, List.setIfInBounds_toArray, List.set_cons_zero, List.set_cons_succ]
    refine wpAnyH_take (i := 3) (v := ?z706) (by simp; rfl) (by kernel_rfl) (by kernel_rfl) (by kernel_rfl) (by exact fun _ _ _ h => h) (Or.inl ⟨by rfl, ?y706⟩) hHeld ?_
    case y706 => intro _ h; have := Ex1.mk h; go_simp; try with_reducible rfl
    try simp only [Act.put, List.setIfInBounds_toArray, List.set_cons_zero, List.set_cons_succ]
    refine wpAnyH_take (i := 4) (v := ?z707) (by simp; rfl) (by kernel_rfl) (by kernel_rfl) (by kernel_rfl) (by exact fun _ _ _ h => h) (Or.inl ⟨by rfl, ?y707⟩) hHeld ?_
    case y707 => intro _ h; have := Ex1.mk h; go_simp; try with_reducible rfl
    try simp only [Act.put, List.setIfInBounds_toArray, List.set_cons_zero, List.set_cons_succ]
    refine wpAnyH_take (i := 5) (v := ?z708) (by simp; rfl) (by kernel_rfl) (by kernel_rfl) (by kernel_rfl) (by exact fun _ _ _ h => h) (Or.inl ⟨by rfl, ?y708⟩) hHeld ?_
    case y708 => intro _ h; have := Ex1.mk h; go_simp; try with_reducible rfl
    try simp only [Act.put, List.setIfInBounds_toArray, List.set_cons_zero, List.set_cons_succ]
    refine wpAnyH_ready (rs := [2]) (by kernel_rfl) (by simp) ?_
    refine AllReadyH.cons (by simp; rfl) (fun K hK => ?_) AllReadyH.nil
    go_simp
    (go_at_call 109; (with_reducible refine Calls.cN (numDenC) ?_); intros)
    refine hK.out _ _ inferInstance ?_
    clear hHeld hK K
    intro hHeld
    try simp only [Act.put, List.setIfInBounds_toArray, List.set_cons_zero, List.set_cons_succ]
    refine wpAnyH_ready (rs := [6]) (by kernel_rfl) (by simp) ?_
    refine AllReadyH.cons (by simp; rfl) (fun K hK => ?_) AllReadyH.nil
    go_simp
    (go_at_call 108; (with_reducible refine Calls.cN (numProductC (by omega)) ?_); intros)
    refine hK.out _ _ inferInstance ?_
    clear hHeld hK K
    intro hHeld
    try simp only [Act.put, List.setIfInBounds_toArray, List.set_cons_zero, List.set_cons_succ]
    refine wpAnyH_ready (rs := [7]) (by kernel_rfl) (by simp) ?_
    refine AllReadyH.cons (by simp; rfl) (fun K hK => ?_) AllReadyH.nil
    go_simp
    (go_at_call 116; (with_reducible refine Calls.cQ (numFracC (by omega) hm) ?_); intros)
    refine hK.out _ _ inferInstance ?_
    clear hHeld hK K
    intro hHeld
    try simp only [Act.put, List.setIfInBounds_toArray, List.set_cons_zero, List.set_cons_succ]
    refine wpAnyH_ready (rs := [8]) (by kernel_rfl) (by simp) ?_
    refine AllReadyH.cons (by simp; rfl) (fun K hK => ?_) AllReadyH.nil
    go_simp
    refine hK.out _ _ inferInstance ?_
    clear hHeld hK K
    intro hHeld
    try simp only [Act.put, List.setIfInBounds_toArray, List.set_cons_zero, List.set_cons_succ]
    refine wpAnyH_done (by kernel_rfl) ?_ _
    clear hHeld
    go_wp2
    refine ret_bx rfl Tryz.underlying36 rfl (by kernel_rfl) rfl rfl rfl ?_
    exact CQRet.fin HE.out (by omega)
theorem refqC {w : World} {g1 : Bool} {a1 : Option Addr} {l1 : Nat} {c1 : Nat} {a : Int} {k1 : Nat} [h1 : CZ w (.agg #[.bool g1, .slice a1 l1 c1]) a k1] :
    Calls Tryz.prog 135 #[.agg #[.bool g1, .slice a1 l1 c1]] w (CQRet w (((a : Int) : Rat)) (k1)) := by
  go_enter Tryz.func135, Tryz.ntmps135
  go_wp2_with fail
  skip
  go_wp2
  refine ret_bx rfl Tryz.underlying36 rfl (by kernel_rfl) rfl rfl rfl ?_
  exact CQRet.fin rfl (by omega)
theorem refValueC {w : World} {g1x : Bool} {a1x : Option Addr} {l1x : Nat} {c1x : Nat} {g1y : Bool} {a1y : Option Addr} {l1y : Nat} {c1y : Nat} {g1z : Bool} {a1z : Option Addr} {l1z : Nat} {c1z : Nat} {la lb lc : Int} {g2x : Bool} {a2x : Option Addr} {l2x : Nat} {c2x : Nat} {aa2x : Option Addr} {ll2x : Nat} {cc2x : Nat} {g2y : Bool} {a2y : Option Addr} {l2y : Nat} {c2y : Nat} {aa2y : Option Addr} {ll2y : Nat} {cc2y : Nat} {x y : Rat} {k1x k1y k1z k2x k2y : Nat} [h1x : CZ w (.agg #[.bool g1x, .slice a1x l1x c1x]) la k1x] [h1y : CZ w (.agg #[.bool g1y, .slice a1y l1y c1y]) lb k1y] [h1z : CZ w (.agg #[.bool g1z, .slice a1z l1z c1z]) lc k1z] [h2x : CQ w (.agg #[.bool g2x, .slice a2x l2x c2x, .slice aa2x ll2x cc2x]) x k2x] [h2y : CQ w (.agg #[.bool g2y, .slice a2y l2y c2y, .slice aa2y ll2y cc2y]) y k2y] (b : k1x ≤ 9000 ∧ k1y ≤ 9000 ∧ k1z ≤ 9000 ∧ k2x ≤ 9000 ∧ k2y ≤ 9000) :
    Calls Tryz.prog 59 #[.agg #[.bool g1x, .slice a1x l1x c1x, .bool g1y, .slice a1y l1y c1y, .bool g1z, .slice a1z l1z c1z], .agg #[.bool g2x, .slice a2x l2x c2x, .slice aa2x ll2x cc2x, .bool g2y, .slice a2y l2y c2y, .slice aa2y ll2y cc2y]] w (CQRet w (((la : Int) : Rat) * x + ((lb : Int) : Rat) * y + ((lc : Int) : Rat)) (k1x + k1y + k1z + k2x + k2y + 30)) := by
  go_enter Tryz.func59, Tryz.ntmps59
  go_wp2_with fail
  refine region_cls (by kernel_rfl) [w.heap.size + 1 + 1] (fun hHeld => ?_)
  refine wpAnyH_take (i := 0) (v := ?z709) (by simp; rfl) (by kernel_rfl) (by kernel_rfl) (by kernel_rfl) (by exact fun _ _ _ h => h) (Or.inl ⟨by rfl, ?y709⟩) hHeld ?_
  case y709 => intro _ h; have := Ex1.mk h; go_simp; try with_reducible rfl
  try simp only [Act.put, List.setIfInBounds_toArray, List.set_cons_zero, List.set_cons_succ]
  refine wpAnyH_take (i := 1) (v := ?z710) (by simp; rfl) (by kernel_rfl) (by kernel_rfl) (by kernel_rfl) (by exact fun _ _ _ h => h) (Or.inl ⟨by rfl, ?y710⟩) hHeld ?_
  case y710 => intro _ h; have := Ex1.mk h; go_simp; try with_reducible rfl
  try simp only [Act.put, List.setIfInBounds_toArray, List.set_cons_zero, List.set_cons_succ]
  refine wpAnyH_take (i := 3) (v := ?z711) (by simp; rfl) (by kernel_rfl) (by kernel_rfl) (by kernel_rfl) (by exact fun _ _ _ h => h) (Or.inl ⟨by rfl, ?y711⟩) hHeld ?_
  case y711 => intro _ h; have := Ex1.mk h; go_simp; try with_reducible rfl
  try simp only [Act.put, List.setIfInBounds_toArray, List.set_cons_zero, List.set_cons_succ]
  refine wpAnyH_take (i := 4) (v := ?z712) (by simp; rfl) (by kernel_rfl) (by kernel_rfl) (by kernel_rfl) (by exact fun _ _ _ h => h) (Or.inl ⟨by rfl, ?y712⟩) hHeld ?_
  case y712 => intro _ h; have := Ex1.mk h; go_simp; try with_reducible rfl
  try simp only [Act.put, List.setIfInBounds_toArray, List.set_cons_zero, List.set_cons_succ]
  refine wpAnyH_take (i := 6) (v := ?z713) (by simp; rfl) (by kernel_rfl) (by kernel_rfl) (by kernel_rfl) (by exact fun _ _ _ h => h) (Or.inl ⟨by rfl, ?y713⟩) hHeld ?_
  case y713 => intro _ h; have := Ex1.mk h; go_simp; try with_reducible rfl
  try simp only [Act.put, List.setIfInBounds_toArray, List.set_cons_zero, List.set_cons_succ]
  refine wpAnyH_take (i := 7) (v := ?z714) (by simp; rfl) (by kernel_rfl) (by kernel_rfl) (by kernel_rfl) (by exact fun _ _ _ h => h) (Or.inl ⟨by rfl, ?y714⟩) hHeld ?_
  case y714 => intro _ h; have := Ex1.mk h; go_simp; try with_reducible rfl
  try simp only [Act.put, List.setIfInBounds_toArray, List.set_cons_zero, List.set_cons_succ]
  refine wpAnyH_take (i := 9) (v := ?z715) (by simp; rfl) (by kernel_rfl) (by kernel_rfl) (by kernel_rfl) (by exact fun _ _ _ h => h) (Or.inl ⟨by rfl, ?y715⟩) hHeld ?_
  case y715 => intro _ h; have := Ex1.mk h; go_simp; try with_reducible rfl
  try simp only [Act.put, List.setIfInBounds_toArray, List.set_cons_zero, List.set_cons_succ]
  refine wpAnyH_take (i := 10) (v := ?z716) (by simp; rfl) (by kernel_rfl) (by kernel_rfl) (by kernel_rfl) (by exact fun _ _ _ h => h) (Or.inl ⟨by rfl, ?y716⟩) hHeld ?_
  case y716 => intro _ h; have := Ex1.mk h; go_simp; try with_reducible rfl
  try simp only [Act.put, List.setIfInBounds_toArray, List.set_cons_zero, List.set_cons_succ]
  refine wpAnyH_take (i := 13) (v := ?z717) (by simp; rfl) (by kernel_rfl) (by kernel_rfl) (by kernel_rfl) (by exact fun _ _ _ h => h) (Or.inl ⟨by rfl, ?y717⟩) hHeld ?_
  case y717 => intro _ h; have := Ex1.mk h; go_simp; try with_reducible rfl
  try simp only [Act.put, List.setIfInBounds_toArray, List.set_cons_zero, List.set_cons_succ]
  refine wpAnyH_take (i := 14) (v := ?z718) (by simp; rfl) (by kernel_rfl) (by kernel_rfl) (by kernel_rfl) (by exact fun _ _ _ h => h) (Or.inl ⟨by rfl, ?y718⟩) hHeld ?_
  case y718 => intro _ h; have := Ex1.mk h; go_simp; try with_reducible rfl
  try simp only [Act.put, List.setIfInBounds_toArray, List.set_cons_zero, List.set_cons_succ]
  refine wpAnyH_ready (rs := [2]) (by kernel_rfl) (by simp) ?_
  refine AllReadyH.cons (by simp; rfl) (fun K hK => ?_) AllReadyH.nil
  go_simp
  (go_at_call 135; (with_reducible refine Calls.cQ (refqC) ?_); intros)
  refine hK.out _ _ inferInstance ?_
  clear hHeld hK K; intro hHeld
  try simp only [Act.put, List.setIfInBounds_toArray, List.set_cons_zero, List.set_cons_succ]
  refine wpAnyH_ready (rs := [5]) (by kernel_rfl) (by simp) ?_
  refine AllReadyH.cons (by simp; rfl) (fun K hK => ?_) AllReadyH.nil
  go_simp
  (go_at_call 107; (with_reducible refine Calls.cQ (numTimesC (by omega)) ?_); intros)
  refine hK.out _ _ inferInstance ?_
  clear hHeld hK K; intro hHeld
  try simp only [Act.put, List.setIfInBounds_toArray, List.set_cons_zero, List.set_cons_succ]
  refine wpAnyH_ready (rs := [8]) (by kernel_rfl) (by simp) ?_
  refine AllReadyH.cons (by simp; rfl) (fun K hK => ?_) AllReadyH.nil
  go_simp
  (go_at_call 135; (with_reducible refine Calls.cQ (refqC) ?_); intros)
  refine hK.out _ _ inferInstance ?_
  clear hHeld hK K; intro hHeld
  try simp only [Act.put, List.setIfInBounds_toArray, List.set_cons_zero, List.set_cons_succ]
  refine wpAnyH_ready (rs := [11]) (by kernel_rfl) (by simp) ?_
  refine AllReadyH.cons (by simp; rfl) (fun K hK => ?_) AllReadyH.nil
  go_simp
  (go_at_call 107; (with_reducible refine Calls.cQ (numTimesC (by omega)) ?_); intros)
  refine hK.out _ _ inferInstance ?_
  clear hHeld hK K; intro hHeld
  try simp only [Act.put, List.setIfInBounds_toArray, List.set_cons_zero, List.set_cons_succ]
  refine wpAnyH_ready (rs := [12]) (by kernel_rfl) (by simp) ?_
  refine AllReadyH.cons (by simp; rfl) (fun K hK => ?_) AllReadyH.nil
  go_simp
  (go_at_call 106; (with_reducible refine Calls.cQ (numPlusC (by omega)) ?_); intros)
  refine hK.out _ _ inferInstance ?_
  clear hHeld hK K; intro hHeld
  try simp only [Act.put, List.setIfInBounds_toArray, List.set_cons_zero, List.set_cons_succ]
  refine wpAnyH_ready (rs := [15]) (by kernel_rfl) (by simp) ?_
  refine AllReadyH.cons (by simp; rfl) (fun K hK => ?_) AllReadyH.nil
  go_simp
  (go_at_call 135; (with_reducible refine Calls.cQ (refqC) ?_); intros)
  refine hK.out _ _ inferInstance ?_
  clear hHeld hK K; intro hHeld
  try simp only [Act.put, List.setIfInBounds_toArray, List.set_cons_zero, List.set_cons_succ]
  refine wpAnyH_ready (rs := [16]) (by kernel_rfl) (by simp) ?_
  refine AllReadyH.cons (by simp; rfl) (fun K hK => ?_) AllReadyH.nil
  go_simp
  (go_at_call 106; (with_reducible refine Calls.cQ (numPlusC (by omega)) ?_); intros)
  refine hK.out _ _ inferInstance ?_
  clear hHeld hK K; intro hHeld
  try simp only [Act.put, List.setIfInBounds_toArray, List.set_cons_zero, List.set_cons_succ]
  refine wpAnyH_ready (rs := [17]) (by kernel_rfl) (by simp) ?_
  refine AllReadyH.cons (by simp; rfl) (fun K hK => ?_) AllReadyH.nil
  go_simp
  refine hK.out _ _ inferInstance ?_
  clear hHeld hK K; intro hHeld
  try simp only [Act.put, List.setIfInBounds_toArray, List.set_cons_zero, List.set_cons_succ]
  refine wpAnyH_done (by kernel_rfl) ?_ _
  clear hHeld
  go_wp2
  refine ret_bx rfl Tryz.underlying36 rfl (by kernel_rfl) rfl rfl rfl ?_
  exact CQRet.fin rfl (by omega)
theorem refSideC {w : World} {g1x : Bool} {a1x : Option Addr} {l1x : Nat} {c1x : Nat} {g1y : Bool} {a1y : Option Addr} {l1y : Nat} {c1y : Nat} {g1z : Bool} {a1z : Option Addr} {l1z : Nat} {c1z : Nat} {la lb lc : Int} {g2x : Bool} {a2x : Option Addr} {l2x : Nat} {c2x : Nat} {aa2x : Option Addr} {ll2x : Nat} {cc2x : Nat} {g2y : Bool} {a2y : Option Addr} {l2y : Nat} {c2y : Nat} {aa2y : Option Addr} {ll2y : Nat} {cc2y : Nat} {x y : Rat} {k1x k1y k1z k2x k2y : Nat} [h1x : CZ w (.agg #[.bool g1x, .slice a1x l1x c1x]) la k1x] [h1y : CZ w (.agg #[.bool g1y, .slice a1y l1y c1y]) lb k1y] [h1z : CZ w (.agg #[.bool g1z, .slice a1z l1z c1z]) lc k1z] [h2x : CQ w (.agg #[.bool g2x, .slice a2x l2x c2x, .slice aa2x ll2x cc2x]) x k2x] [h2y : CQ w (.agg #[.bool g2y, .slice a2y l2y c2y, .slice aa2y ll2y cc2y]) y k2y] (b : k1x ≤ 9000 ∧ k1y ≤ 9000 ∧ k1z ≤ 9000 ∧ k2x ≤ 9000 ∧ k2y ≤ 9000) :
    Calls Tryz.prog 61 #[.agg #[.bool g1x, .slice a1x l1x c1x, .bool g1y, .slice a1y l1y c1y, .bool g1z, .slice a1z l1z c1z], .agg #[.bool g2x, .slice a2x l2x c2x, .slice aa2x ll2x cc2x, .bool g2y, .slice a2y l2y c2y, .slice aa2y ll2y cc2y]] w (fun e w' => e = .returned (.int .i64 (isgn (((la : Int) : Rat) * x + ((lb : Int) : Rat) * y + ((lc : Int) : Rat)).num)) ∧ Below w.heap.size w w') := by
  go_enter Tryz.func61, Tryz.ntmps61
  go_wp2_with (first
    | (go_at_call 59; (with_reducible refine Calls.cQ (refValueC (by omega)) ?_); intros)
    | (go_at_call 42; (with_reducible refine Calls.cE (numSC) ?_); intros))
  go_ret
  exact E.fin rfl
theorem refDirC {w : World} {g1x : Bool} {a1x : Option Addr} {l1x : Nat} {c1x : Nat} {g1y : Bool} {a1y : Option Addr} {l1y : Nat} {c1y : Nat} {g1z : Bool} {a1z : Option Addr} {l1z : Nat} {c1z : Nat} {la lb lc : Int} {k1x k1y k1z : Nat} [h1x : CZ w (.agg #[.bool g1x, .slice a1x l1x c1x]) la k1x] [h1y : CZ w (.agg #[.bool g1y, .slice a1y l1y c1y]) lb k1y] [h1z : CZ w (.agg #[.bool g1z, .slice a1z l1z c1z]) lc k1z] (b : k1x ≤ 9000 ∧ k1y ≤ 9000 ∧ k1z ≤ 9000) :
    Calls Tryz.prog 64 #[.agg #[.bool g1x, .slice a1x l1x c1x, .bool g1y, .slice a1y l1y c1y, .bool g1z, .slice a1z l1z c1z]] w (CPQRet w (((lb : Int) : Rat)) (-((la : Int) : Rat)) (max k1x k1y)) := by
  go_enter Tryz.func64, Tryz.ntmps64
  go_wp2_with fail
  refine region_cls (by kernel_rfl) [w.heap.size + 1] (fun hHeld => ?_)
  refine wpAnyH_take (i := 0) (v := ?z719) (by simp; rfl) (by kernel_rfl) (by kernel_rfl) (by kernel_rfl) (by exact fun _ _ _ h => h) (Or.inl ⟨by rfl, ?y719⟩) hHeld ?_
  case y719 => intro _ h; have := Ex1.mk h; go_simp; try with_reducible rfl
  try simp only [Act.put, List.setIfInBounds_toArray, List.set_cons_zero, List.set_cons_succ]
  refine wpAnyH_take (i := 1) (v := ?z720) (by simp; rfl) (by kernel_rfl) (by kernel_rfl) (by kernel_rfl) (by exact fun _ _ _ h => h) (Or.inl ⟨by rfl, ?y720⟩) hHeld ?_
  case y720 => intro _ h; have := Ex1.mk h; go_simp; try with_reducible rfl
  try simp only [Act.put, List.setIfInBounds_toArray, List.set_cons_zero, List.set_cons_succ]
  refine wpAnyH_take (i := 3) (v := ?z721) (by simp; rfl) (by kernel_rfl) (by kernel_rfl) (by kernel_rfl) (by exact fun _ _ _ h => h) (Or.inl ⟨by rfl, ?y721⟩) hHeld ?_
  case y721 => intro _ h; have := Ex1.mk h; go_simp; try with_reducible rfl
  try simp only [Act.put, List.setIfInBounds_toArray, List.set_cons_zero, List.set_cons_succ]
  refine wpAnyH_take (i := 4) (v := ?z722) (by simp; rfl) (by kernel_rfl) (by kernel_rfl) (by kernel_rfl) (by exact fun _ _ _ h => h) (Or.inl ⟨by rfl, ?y722⟩) hHeld ?_
  case y722 => intro _ h; have := Ex1.mk h; go_simp; try with_reducible rfl
  try simp only [Act.put, List.setIfInBounds_toArray, List.set_cons_zero, List.set_cons_succ]
  refine wpAnyH_ready (rs := [2]) (by kernel_rfl) (by simp) ?_
  refine AllReadyH.cons (by simp; rfl) (fun K hK => ?_) AllReadyH.nil
  go_simp
  (go_at_call 135; (with_reducible refine Calls.cQ (refqC) ?_); intros)
  refine hK.out _ _ inferInstance ?_
  clear hHeld hK K; intro hHeld
  try simp only [Act.put, List.setIfInBounds_toArray, List.set_cons_zero, List.set_cons_succ]
  refine wpAnyH_ready (rs := [5]) (by kernel_rfl) (by simp) ?_
  refine AllReadyH.cons (by simp; rfl) (fun K hK => ?_) AllReadyH.nil
  go_simp
  (go_at_call 135; (with_reducible refine Calls.cQ (refqC) ?_); intros)
  refine hK.out _ _ inferInstance ?_
  clear hHeld hK K; intro hHeld
  try simp only [Act.put, List.setIfInBounds_toArray, List.set_cons_zero, List.set_cons_succ]
  refine wpAnyH_ready (rs := [6]) (by kernel_rfl) (by simp) ?_
  refine AllReadyH.cons (by simp; rfl) (fun K hK => ?_) AllReadyH.nil
  go_simp
  (go_at_call 78; (with_reducible refine Calls.cQ (numOppC) ?_); intros)
  refine hK.out _ _ inferInstance ?_
  clear hHeld hK K; intro hHeld
  try simp only [Act.put, List.setIfInBounds_toArray, List.set_cons_zero, List.set_cons_succ]
  refine wpAnyH_take (i := 7) (v := ?z723) (by simp; rfl) (by kernel_rfl) (by kernel_rfl) (by kernel_rfl) (by exact fun _ _ _ h => h) (Or.inl ⟨by rfl, ?y723⟩) hHeld ?_
  case y723 => intro _ h; have := Ex1.mk h; go_simp; try with_reducible rfl
  try simp only [Act.put, List.setIfInBounds_toArray, List.set_cons_zero, List.set_cons_succ]
  refine wpAnyH_ready (rs := [8]) (by kernel_rfl) (by simp) ?_
  refine AllReadyH.cons (by simp; rfl) (fun K hK => ?_) AllReadyH.nil
  go_simp
  refine hK.out _ _ inferInstance ?_
  clear hHeld hK K; intro hHeld
  try simp only [Act.put, List.setIfInBounds_toArray, List.set_cons_zero, List.set_cons_succ]
  refine wpAnyH_done (by kernel_rfl) ?_ _
  clear hHeld
  go_wp2
  refine ret_bx rfl Tryz.underlying38 rfl (by kernel_rfl) rfl rfl rfl ?_
  exact CPQRet.fin rfl (by omega) rfl (by omega)
theorem refBaseC {w : World} {g1x : Bool} {a1x : Option Addr} {l1x : Nat} {c1x : Nat} {g1y : Bool} {a1y : Option Addr} {l1y : Nat} {c1y : Nat} {g1z : Bool} {a1z : Option Addr} {l1z : Nat} {c1z : Nat} {la lb lc : Int} {k1x k1y k1z : Nat} [h1x : CZ w (.agg #[.bool g1x, .slice a1x l1x c1x]) la k1x] [h1y : CZ w (.agg #[.bool g1y, .slice a1y l1y c1y]) lb k1y] [h1z : CZ w (.agg #[.bool g1z, .slice a1z l1z c1z]) lc k1z] (b : k1x ≤ 5000 ∧ k1y ≤ 5000 ∧ k1z ≤ 5000) (hv : Hid (LnV la lb lc)) :
    Calls Tryz.prog 66 #[.agg #[.bool g1x, .slice a1x l1x c1x, .bool g1y, .slice a1y l1y c1y, .bool g1z, .slice a1z l1z c1z]] w (CPQRet w (-(((lc : Int) : Rat) / (((lb : Int) : Rat) * ((lb : Int) : Rat) + -((la : Int) : Rat) * -((la : Int) : Rat))) * ((la : Int) : Rat)) (-(((lc : Int) : Rat) / (((lb : Int) : Rat) * ((lb : Int) : Rat) + -((la : Int) : Rat) * -((la : Int) : Rat))) * ((lb : Int) : Rat)) (5 * (max k1x k1y) + k1z + 40)) := by
  have HZ := dd_ne hv.out
  go_enter Tryz.func66, Tryz.ntmps66
  go_upto_region 1 with fail
  go_cut [3] from 5 to 6 (fun t wx => ∃ (b3 : Nat) (g1 : Bool) (a1 : Option Addr) (l1 c1 : Nat) (aa1 : Option Addr) (ll1 cc1 : Nat) (g2 : Bool) (a2 : Option Addr) (l2 c2 : Nat) (aa2 : Option Addr) (ll2 cc2 : Nat), t = .pointer (some ⟨b3, 0, none⟩) ∧ Bx wx b3 38 [.bool g1, .slice a1 l1 c1, .slice aa1 ll1 cc1, .bool g2, .slice a2 l2 c2, .slice aa2 ll2 cc2] ∧ CQ wx (.agg #[.bool g1, .slice a1 l1 c1, .slice aa1 ll1 cc1]) (((lb : Int) : Rat)) (max k1x k1y) ∧ CQ wx (.agg #[.bool g2, .slice a2 l2 c2, .slice aa2 ll2 cc2]) (-((la : Int) : Rat)) (max k1x k1y) ∧ Bx wx w.heap.size 55 [.bool g1x, .slice a1x l1x c1x, .bool g1y, .slice a1y l1y c1y, .bool g1z, .slice a1z l1z c1z] ∧ Bx wx (w.heap.size + 1) 38 [.bool false, .slice none 0 0, .slice none 0 0, .bool false, .slice none 0 0, .slice none 0 0] ∧ CZ wx (.agg #[.bool g1x, .slice a1x l1x c1x]) la k1x ∧ CZ wx (.agg #[.bool g1y, .slice a1y l1y c1y]) lb k1y ∧ CZ wx (.agg #[.bool g1z, .slice a1z l1z c1z]) lc k1z ∧ Kp w wx)
  case first =>
    go_wp2_with (first | (go_at_call 64; (with_reducible refine Calls.cPQ (refDirC (by omega)) ?_); intros))
    go_meet
    exact ⟨_, _, _, _, _, _, _, _, _, _, _, _, _, _, _, rfl, inferInstance, CQ.cast inferInstance rfl (by omega), CQ.cast inferInstance rfl (by omega), inferInstance, inferInstance, inferInstance, inferInstance, inferInstance, inferInstance⟩
  case rest =>
   obtain ⟨b3, g1, a1, l1, c1, aa1, ll1, cc1, g2, a2, l2, c2, aa2, ll2, cc2, rfl, i1, i2, i3, i4, i5, i6, i7, i8, i9⟩ := hcut
   go_upto_region 2 with fail
   go_cut [4] from 7 to 14 (fun t wx => ∃ (b4 : Nat) (g : Bool) (a : Option Addr) (l c : Nat) (aa : Option Addr) (ll cc : Nat), t = .pointer (some ⟨b4, 0, none⟩) ∧ Bx wx b4 36 [.bool g, .slice a l c, .slice aa ll cc] ∧ CQ wx (.agg #[.bool g, .slice a l c, .slice aa ll cc]) (-(((lc : Int) : Rat) / (((lb : Int) : Rat) * ((lb : Int) : Rat) + -((la : Int) : Rat) * -((la : Int) : Rat)))) (4 * (max k1x k1y) + k1z + 24) ∧ Kp wc wx)
   case first =>
    refine region_t (by kernel_rfl) [] (List.contains []) (fun hHeld => ?_)
    refine wpAnyT_take (i := 0) (v := ?z724) (by simp; rfl) (by kernel_rfl) (by kernel_rfl) (by kernel_rfl) (by exact fun _ _ _ h => h) (T_waits (by kernel_rfl)) (Or.inl ⟨by rfl, ?y724⟩) hHeld ?_
    case y724 => intro _ h; have := Ex1.mk h; go_simp; try with_reducible rfl
    try simp only [Act.put, List.setIfInBounds_toArray, List.set_cons_zero, List.set_cons_succ]
    refine wpAnyT_take (i := 1) (v := ?z725) (by simp; rfl) (by kernel_rfl) (by kernel_rfl) (by kernel_rfl) (by exact fun _ _ _ h => h) (T_waits (by kernel_rfl)) (Or.inl ⟨by rfl, ?y725⟩) hHeld ?_
    case y725 => intro _ h; have := Ex1.mk h; go_simp; try with_reducible rfl
    try simp only [Act.put, List.setIfInBounds_toArray, List.set_cons_zero, List.set_cons_succ]
    refine wpAnyT_take (i := 3) (v := ?z726) (by simp; rfl) (by kernel_rfl) (by kernel_rfl) (by kernel_rfl) (by exact fun _ _ _ h => h) (T_waits (by kernel_rfl)) (Or.inl ⟨by rfl, ?y726⟩) hHeld ?_
    case y726 => intro _ h; have := Ex1.mk h; go_simp; try with_reducible rfl
    try simp only [Act.put, List.setIfInBounds_toArray, List.set_cons_zero, List.set_cons_succ]
    refine wpAnyT_take (i := 4) (v := ?z727) (by simp; rfl) (by kernel_rfl) (by kernel_rfl) (by kernel_rfl) (by exact fun _ _ _ h => h) (T_waits (by kernel_rfl)) (Or.inl ⟨by rfl, ?y727⟩) hHeld ?_
    case y727 => intro _ h; have := Ex1.mk h; go_simp; try with_reducible rfl
    try simp only [Act.put, List.setIfInBounds_toArray, List.set_cons_zero, List.set_cons_succ]
    refine wpAnyT_inv [(2, 9), (5, 12), (6, 13), (7, 14), (8, 4)] (fun i => match i with | 2 => [] | 5 => [2] | 6 => [2, 5] | 7 => [6] | 8 => [] | _ => []) [phiQ (((lc : Int) : Rat)) k1z, phiQ (((lb : Int) : Rat) * ((lb : Int) : Rat) + -((la : Int) : Rat) * -((la : Int) : Rat)) (4 * (max k1x k1y) + 12), phiQ (((lc : Int) : Rat) / (((lb : Int) : Rat) * ((lb : Int) : Rat) + -((la : Int) : Rat) * -((la : Int) : Rat))) (4 * (max k1x k1y) + k1z + 24), phiQ (-(((lc : Int) : Rat) / (((lb : Int) : Rat) * ((lb : Int) : Rat) + -((la : Int) : Rat) * -((la : Int) : Rat)))) (4 * (max k1x k1y) + k1z + 24), phiB wc 36 [.bool false, .slice none 0 0, .slice none 0 0]] [8] 1 (by rfl) (by decide +kernel) (by decide) (by decide) (by kernel_rfl) ?_ (fun _ _ => Ex.below) hHeld ?_ ?_
    · intro i hi v W h
      simp only [List.mem_cons, List.not_mem_nil, or_false] at hi
      rcases hi with rfl
      all_goals exact phiB.old h
    · intro i hi f W hSw hbw hp
      have kw := Kp1.mk hbw
      have hSx := Ex1.mk hSw
      clear hHeld
      simp only [List.map_cons, List.map_nil, List.mem_cons, List.not_mem_nil, or_false] at hi
      rcases hi with rfl | rfl | rfl | rfl | rfl
      · refine ⟨_, by simp; rfl, fun K' hK => ?_⟩
        clear hp
        simp only [putAll, Act.put, List.setIfInBounds_toArray, List.set_cons_zero, List.set_cons_succ] at hK ⊢
        generalize f 2 = v2 at *
        generalize f 5 = v5 at *
        generalize f 6 = v6 at *
        generalize f 7 = v7 at *
        generalize f 8 = v8 at *
        go_simp
        (go_at_call 135; (with_reducible refine Calls.cQ (refqC) ?_); intros)
        refine hK.out _ _ _ rfl ?_ ?_ ?_
        · exact (inferInstance : Kp W _).out
        · show phiQ (((lc : Int) : Rat)) k1z _ _
          exact phiQ.fin rfl (by omega)
        · exact fun h => absurd h (by decide)
      · have h2 : phiQ (((lc : Int) : Rat)) k1z (f 2) W := hp 2 (by decide)
        refine ⟨_, by simp; rfl, fun K' hK => ?_⟩
        clear hp
        simp only [putAll, Act.put, List.setIfInBounds_toArray, List.set_cons_zero, List.set_cons_succ] at hK ⊢
        generalize f 2 = v2 at *
        generalize f 5 = v5 at *
        generalize f 6 = v6 at *
        generalize f 7 = v7 at *
        generalize f 8 = v8 at *
        obtain ⟨g2, a2, l2, c2, aa2, ll2, cc2, rfl, i2⟩ := h2
        go_simp
        (go_at_call 129; (with_reducible refine Calls.cQ (refDotC (by omega)) ?_); intros)
        refine hK.out _ _ _ rfl ?_ ?_ ?_
        · exact (inferInstance : Kp W _).out
        · show phiQ (((lb : Int) : Rat) * ((lb : Int) : Rat) + -((la : Int) : Rat) * -((la : Int) : Rat)) (4 * (max k1x k1y) + 12) _ _
          exact phiQ.fin rfl (by omega)
        · exact fun h => absurd h (by decide)
      · have h2 : phiQ (((lc : Int) : Rat)) k1z (f 2) W := hp 2 (by decide)
        have h5 : phiQ (((lb : Int) : Rat) * ((lb : Int) : Rat) + -((la : Int) : Rat) * -((la : Int) : Rat)) (4 * (max k1x k1y) + 12) (f 5) W := hp 5 (by decide)
        refine ⟨_, by simp; rfl, fun K' hK => ?_⟩
        clear hp
        simp only [putAll, Act.put, List.setIfInBounds_toArray, List.set_cons_zero, List.set_cons_succ] at hK ⊢
        generalize f 2 = v2 at *
        generalize f 5 = v5 at *
        generalize f 6 = v6 at *
        generalize f 7 = v7 at *
        generalize f 8 = v8 at *
        obtain ⟨g2, a2, l2, c2, aa2, ll2, cc2, rfl, i2⟩ := h2
        obtain ⟨g5, a5, l5, c5, aa5, ll5, cc5, rfl, i5⟩ := h5
        go_simp
        (go_at_call 144; (with_reducible refine Calls.cQ (numOverC (by omega) HZ.out) ?_); intros)
        refine hK.out _ _ _ rfl ?_ ?_ ?_
        · exact (inferInstance : Kp W _).out
        · show phiQ (((lc : Int) : Rat) / (((lb : Int) : Rat) * ((lb : Int) : Rat) + -((la : Int) : Rat) * -((la : Int) : Rat))) (4 * (max k1x k1y) + k1z + 24) _ _
          exact phiQ.fin rfl (by omega)
        · exact fun h => absurd h (by decide)
      · have h6 : phiQ (((lc : Int) : Rat) / (((lb : Int) : Rat) * ((lb : Int) : Rat) + -((la : Int) : Rat) * -((la : Int) : Rat))) (4 * (max k1x k1y) + k1z + 24) (f 6) W := hp 6 (by decide)
        refine ⟨_, by simp; rfl, fun K' hK => ?_⟩
        clear hp
        simp only [putAll, Act.put, List.setIfInBounds_toArray, List.set_cons_zero, List.set_cons_succ] at hK ⊢
        generalize f 2 = v2 at *
        generalize f 5 = v5 at *
        generalize f 6 = v6 at *
        generalize f 7 = v7 at *
        generalize f 8 = v8 at *
        obtain ⟨g6, a6, l6, c6, aa6, ll6, cc6, rfl, i6⟩ := h6
        go_simp
        (go_at_call 78; (with_reducible refine Calls.cQ (numOppC) ?_); intros)
        refine hK.out _ _ _ rfl ?_ ?_ ?_
        · exact (inferInstance : Kp W _).out
        · show phiQ (-(((lc : Int) : Rat) / (((lb : Int) : Rat) * ((lb : Int) : Rat) + -((la : Int) : Rat) * -((la : Int) : Rat)))) (4 * (max k1x k1y) + k1z + 24) _ _
          exact phiQ.fin rfl (by omega)
        · exact fun h => absurd h (by decide)
      · refine ⟨_, by simp; rfl, fun K' hK => ?_⟩
        clear hp
        simp only [putAll, Act.put, List.setIfInBounds_toArray, List.set_cons_zero, List.set_cons_succ] at hK ⊢
        generalize f 2 = v2 at *
        generalize f 5 = v5 at *
        generalize f 6 = v6 at *
        generalize f 7 = v7 at *
        generalize f 8 = v8 at *
        go_simp
        refine hK.out _ _ _ rfl ?_ ?_ ?_
        · exact (inferInstance : Kp W _).out
        · show phiB wc 36 [.bool false, .slice none 0 0, .slice none 0 0] _ _
          exact phiB.fin
        · exact fun _ => ⟨_, rfl, Nat.le_refl _⟩
    · intro f W hSw hbw hf hne
      have kw := Kp1.mk hbw
      have hSx := Ex1.mk hSw
      clear hHeld
      have h2 : phiQ (((lc : Int) : Rat)) k1z (f 2) W := hf 2 (by decide)
      have h5 : phiQ (((lb : Int) : Rat) * ((lb : Int) : Rat) + -((la : Int) : Rat) * -((la : Int) : Rat)) (4 * (max k1x k1y) + 12) (f 5) W := hf 5 (by decide)
      have h6 : phiQ (((lc : Int) : Rat) / (((lb : Int) : Rat) * ((lb : Int) : Rat) + -((la : Int) : Rat) * -((la : Int) : Rat))) (4 * (max k1x k1y) + k1z + 24) (f 6) W := hf 6 (by decide)
      have h7 : phiQ (-(((lc : Int) : Rat) / (((lb : Int) : Rat) * ((lb : Int) : Rat) + -((la : Int) : Rat) * -((la : Int) : Rat)))) (4 * (max k1x k1y) + k1z + 24) (f 7) W := hf 7 (by decide)
      have h8 : phiB wc 36 [.bool false, .slice none 0 0, .slice none 0 0] (f 8) W := hf 8 (by decide)
      clear hf hne
      simp only [putAll, lset, List.map_cons, List.map_nil, Act.put, List.setIfInBounds_toArray, List.set_cons_zero, List.set_cons_succ]
      generalize f 2 = v2 at *
      generalize f 5 = v5 at *
      generalize f 6 = v6 at *
      generalize f 7 = v7 at *
      generalize f 8 = v8 at *
      obtain ⟨g2, a2, l2, c2, aa2, ll2, cc2, rfl, i2⟩ := h2
      obtain ⟨g5, a5, l5, c5, aa5, ll5, cc5, rfl, i5⟩ := h5
      obtain ⟨g6, a6, l6, c6, aa6, ll6, cc6, rfl, i6⟩ := h6
      obtain ⟨g7, a7, l7, c7, aa7, ll7, cc7, rfl, i7⟩ := h7
      obtain ⟨b8, rfl, i8, j8, k8⟩ := h8
      have hHeld := hSw
      refine wpAnyT_ready (rs := [9]) (by kernel_rfl) (by simp) ?_
      refine AllT.cons (by simp; rfl) (fun K hK => ?_) AllT.nil
      go_simp
      refine hK.out _ _ (fun _ => inferInstance) ?_
      clear hHeld hK K
      intro hHeld
      have hHeld := hHeld (by decide)
      try simp only [Act.put, List.setIfInBounds_toArray, List.set_cons_zero, List.set_cons_succ]
      refine wpAnyT_done (by kernel_rfl) ?_ _
      clear hHeld
      go_wp2_with fail
      go_meet
      exact ⟨_, _, _, _, _, _, _, _, rfl, inferInstance, inferInstance, inferInstance⟩
   case rest =>
    obtain ⟨b4, g, a, l, c, aa, ll, cc, rfl, m1, m2, ⟨m3⟩⟩ := hcut
    have m5 := Kp1.mk m3
    have m6 : Kp w wc := inferInstance
    go_wp2_with fail
    refine region_t (by kernel_rfl) [] (List.contains [11]) (fun hHeld => ?_)
    refine wpAnyT_take (i := 0) (v := ?z728) (by simp; rfl) (by kernel_rfl) (by kernel_rfl) (by kernel_rfl) (by exact fun _ _ _ h => h) (T_waits (by kernel_rfl)) (Or.inl ⟨by rfl, ?y728⟩) hHeld ?_
    case y728 => intro _ h; have := Ex1.mk h; go_simp; try with_reducible rfl
    try simp only [Act.put, List.setIfInBounds_toArray, List.set_cons_zero, List.set_cons_succ]
    refine wpAnyT_take (i := 1) (v := ?z729) (by simp; rfl) (by kernel_rfl) (by kernel_rfl) (by kernel_rfl) (by exact fun _ _ _ h => h) (T_waits (by kernel_rfl)) (Or.inl ⟨by rfl, ?y729⟩) hHeld ?_
    case y729 => intro _ h; have := Ex1.mk h; go_simp; try with_reducible rfl
    try simp only [Act.put, List.setIfInBounds_toArray, List.set_cons_zero, List.set_cons_succ]
    refine wpAnyT_take (i := 2) (v := ?z730) (by simp; rfl) (by kernel_rfl) (by kernel_rfl) (by kernel_rfl) (by exact fun _ _ _ h => h) (T_waits (by kernel_rfl)) (Or.inl ⟨by rfl, ?y730⟩) hHeld ?_
    case y730 => intro _ h; have := Ex1.mk h; go_simp; try with_reducible rfl
    try simp only [Act.put, List.setIfInBounds_toArray, List.set_cons_zero, List.set_cons_succ]
    refine wpAnyT_take (i := 5) (v := ?z731) (by simp; rfl) (by kernel_rfl) (by kernel_rfl) (by kernel_rfl) (by exact fun _ _ _ h => h) (T_waits (by kernel_rfl)) (Or.inl ⟨by rfl, ?y731⟩) hHeld ?_
    case y731 => intro _ h; have := Ex1.mk h; go_simp; try with_reducible rfl
    try simp only [Act.put, List.setIfInBounds_toArray, List.set_cons_zero, List.set_cons_succ]
    refine wpAnyT_take (i := 6) (v := ?z732) (by simp; rfl) (by kernel_rfl) (by kernel_rfl) (by kernel_rfl) (by exact fun _ _ _ h => h) (T_waits (by kernel_rfl)) (Or.inl ⟨by rfl, ?y732⟩) hHeld ?_
    case y732 => intro _ h; have := Ex1.mk h; go_simp; try with_reducible rfl
    try simp only [Act.put, List.setIfInBounds_toArray, List.set_cons_zero, List.set_cons_succ]
    refine wpAnyT_take (i := 7) (v := ?z733) (by simp; rfl) (by kernel_rfl) (by kernel_rfl) (by kernel_rfl) (by exact fun _ _ _ h => h) (T_waits (by kernel_rfl)) (Or.inl ⟨by rfl, ?y733⟩) hHeld ?_
    case y733 => intro _ h; have := Ex1.mk h; go_simp; try with_reducible rfl
    try simp only [Act.put, List.setIfInBounds_toArray, List.set_cons_zero, List.set_cons_succ]
    refine wpAnyT_ready (rs := [3]) (by kernel_rfl) (by simp) ?_
    refine AllT.cons (by simp; rfl) (fun K hK => ?_) AllT.nil
    go_simp
    (go_at_call 135; (with_reducible refine Calls.cQ (refqC) ?_); intros)
    refine hK.out _ _ (fun _ => inferInstance) ?_
    clear hHeld hK K
    intro hHeld
    have hHeld := hHeld (by decide)
    try simp only [Act.put, List.setIfInBounds_toArray, List.set_cons_zero, List.set_cons_succ]
    refine wpAnyT_ready (rs := [4]) (by kernel_rfl) (by simp) ?_
    refine AllT.cons (by simp; rfl) (fun K hK => ?_) AllT.nil
    go_simp
    (go_at_call 107; (with_reducible refine Calls.cQ (numTimesC (by omega)) ?_); intros)
    refine hK.out _ _ (fun _ => inferInstance) ?_
    clear hHeld hK K
    intro hHeld
    have hHeld := hHeld (by decide)
    try simp only [Act.put, List.setIfInBounds_toArray, List.set_cons_zero, List.set_cons_succ]
    refine wpAnyT_ready (rs := [8]) (by kernel_rfl) (by simp) ?_
    refine AllT.cons (by simp; rfl) (fun K hK => ?_) AllT.nil
    go_simp
    (go_at_call 135; (with_reducible refine Calls.cQ (refqC) ?_); intros)
    refine hK.out _ _ (fun _ => inferInstance) ?_
    clear hHeld hK K
    intro hHeld
    have hHeld := hHeld (by decide)
    try simp only [Act.put, List.setIfInBounds_toArray, List.set_cons_zero, List.set_cons_succ]
    refine wpAnyT_ready (rs := [9]) (by kernel_rfl) (by simp) ?_
    refine AllT.cons (by simp; rfl) (fun K hK => ?_) AllT.nil
    go_simp
    (go_at_call 107; (with_reducible refine Calls.cQ (numTimesC (by omega)) ?_); intros)
    refine hK.out _ _ (fun _ => inferInstance) ?_
    clear hHeld hK K
    intro hHeld
    have hHeld := hHeld (by decide)
    try simp only [Act.put, List.setIfInBounds_toArray, List.set_cons_zero, List.set_cons_succ]
    refine wpAnyT_take (i := 10) (v := ?z734) (by simp; rfl) (by kernel_rfl) (by kernel_rfl) (by kernel_rfl) (by exact fun _ _ _ h => h) (T_waits (by kernel_rfl)) (Or.inl ⟨by rfl, ?y734⟩) hHeld ?_
    case y734 => intro _ h; have := Ex1.mk h; go_simp; try with_reducible rfl
    try simp only [Act.put, List.setIfInBounds_toArray, List.set_cons_zero, List.set_cons_succ]
    refine wpAnyT_ready (rs := [11]) (by kernel_rfl) (by simp) ?_
    refine AllT.cons (by simp; rfl) (fun K hK => ?_) AllT.nil
    go_simp
    refine hK.out _ _ (fun h => absurd h (by decide)) ?_
    clear hHeld hK K
    intro hHeld
    try simp only [Act.put, List.setIfInBounds_toArray, List.set_cons_zero, List.set_cons_succ]
    refine wpAnyT_done (by kernel_rfl) ?_ _
    clear hHeld
    go_wp2_with fail
    refine ret_bx rfl Tryz.underlying38 rfl (by kernel_rfl) rfl rfl rfl ?_
    exact CPQRet.fin rfl (by omega) rfl (by omega)
theorem refPAddB {w : World} {g1x : Bool} {a1x : Option Addr} {l1x : Nat} {c1x : Nat} {aa1x : Option Addr} {ll1x : Nat} {cc1x : Nat} {g1y : Bool} {a1y : Option Addr} {l1y : Nat} {c1y : Nat} {aa1y : Option Addr} {ll1y : Nat} {cc1y : Nat} {x1 y1 : Rat} {g2 : Bool} {a2 : Option Addr} {l2 : Nat} {c2 : Nat} {aa2 : Option Addr} {ll2 : Nat} {cc2 : Nat} {z : Rat} {g3x : Bool} {a3x : Option Addr} {l3x : Nat} {c3x : Nat} {aa3x : Option Addr} {ll3x : Nat} {cc3x : Nat} {g3y : Bool} {a3y : Option Addr} {l3y : Nat} {c3y : Nat} {aa3y : Option Addr} {ll3y : Nat} {cc3y : Nat} {x2 y2 : Rat} {k1x k1y k2 k3x k3y : Nat} [h1x : CQ w (.agg #[.bool g1x, .slice a1x l1x c1x, .slice aa1x ll1x cc1x]) x1 k1x] [h1y : CQ w (.agg #[.bool g1y, .slice a1y l1y c1y, .slice aa1y ll1y cc1y]) y1 k1y] [h2 : CQ w (.agg #[.bool g2, .slice a2 l2 c2, .slice aa2 ll2 cc2]) z k2] [h3x : CQ w (.agg #[.bool g3x, .slice a3x l3x c3x, .slice aa3x ll3x cc3x]) x2 k3x] [h3y : CQ w (.agg #[.bool g3y, .slice a3y l3y c3y, .slice aa3y ll3y cc3y]) y2 k3y] (b : k1x ≤ 40000 ∧ k1y ≤ 40000 ∧ k2 ≤ 10000 ∧ k3x ≤ 10000 ∧ k3y ≤ 10000) :
    Calls Tryz.prog 46 #[.agg #[.bool g1x, .slice a1x l1x c1x, .slice aa1x ll1x cc1x, .bool g1y, .slice a1y l1y c1y, .slice aa1y ll1y cc1y], .agg #[.bool g2, .slice a2 l2 c2, .slice aa2 ll2 cc2], .agg #[.bool g3x, .slice a3x l3x c3x, .slice aa3x ll3x cc3x, .bool g3y, .slice a3y l3y c3y, .slice aa3y ll3y cc3y]] w (CPQRet w (x1 + z * x2) (y1 + z * y2) (max k1x k1y + k2 + max k3x k3y + 8)) := by
  go_enter Tryz.func46, Tryz.ntmps46
  go_wp2_with fail
  refine region_cls (by kernel_rfl) [w.heap.size + 1 + 1 + 1] (fun hHeld => ?_)
  refine wpAnyH_take (i := 0) (v := ?z735) (by simp; rfl) (by kernel_rfl) (by kernel_rfl) (by kernel_rfl) (by exact fun _ _ _ h => h) (Or.inl ⟨by rfl, ?y735⟩) hHeld ?_
  case y735 => intro _ h; have := Ex1.mk h; go_simp; try with_reducible rfl
  try simp only [Act.put, List.setIfInBounds_toArray, List.set_cons_zero, List.set_cons_succ]
  refine wpAnyH_take (i := 1) (v := ?z736) (by simp; rfl) (by kernel_rfl) (by kernel_rfl) (by kernel_rfl) (by exact fun _ _ _ h => h) (Or.inl ⟨by rfl, ?y736⟩) hHeld ?_
  case y736 => intro _ h; have := Ex1.mk h; go_simp; try with_reducible rfl
  try simp only [Act.put, List.setIfInBounds_toArray, List.set_cons_zero, List.set_cons_succ]
  refine wpAnyH_take (i := 2) (v := ?z737) (by simp; rfl) (by kernel_rfl) (by kernel_rfl) (by kernel_rfl) (by exact fun _ _ _ h => h) (Or.inl ⟨by rfl, ?y737⟩) hHeld ?_
  case y737 => intro _ h; have := Ex1.mk h; go_simp; try with_reducible rfl
  try simp only [Act.put, List.setIfInBounds_toArray, List.set_cons_zero, List.set_cons_succ]
  refine wpAnyH_take (i := 3) (v := ?z738) (by simp; rfl) (by kernel_rfl) (by kernel_rfl) (by kernel_rfl) (by exact fun _ _ _ h => h) (Or.inl ⟨by rfl, ?y738⟩) hHeld ?_
  case y738 => intro _ h; have := Ex1.mk h; go_simp; try with_reducible rfl
  try simp only [Act.put, List.setIfInBounds_toArray, List.set_cons_zero, List.set_cons_succ]
  refine wpAnyH_take (i := 4) (v := ?z739) (by simp; rfl) (by kernel_rfl) (by kernel_rfl) (by kernel_rfl) (by exact fun _ _ _ h => h) (Or.inl ⟨by rfl, ?y739⟩) hHeld ?_
  case y739 => intro _ h; have := Ex1.mk h; go_simp; try with_reducible rfl
  try simp only [Act.put, List.setIfInBounds_toArray, List.set_cons_zero, List.set_cons_succ]
  refine wpAnyH_take (i := 7) (v := ?z740) (by simp; rfl) (by kernel_rfl) (by kernel_rfl) (by kernel_rfl) (by exact fun _ _ _ h => h) (Or.inl ⟨by rfl, ?y740⟩) hHeld ?_
  case y740 => intro _ h; have := Ex1.mk h; go_simp; try with_reducible rfl
  try simp only [Act.put, List.setIfInBounds_toArray, List.set_cons_zero, List.set_cons_succ]
  refine wpAnyH_take (i := 8) (v := ?z741) (by simp; rfl) (by kernel_rfl) (by kernel_rfl) (by kernel_rfl) (by exact fun _ _ _ h => h) (Or.inl ⟨by rfl, ?y741⟩) hHeld ?_
  case y741 => intro _ h; have := Ex1.mk h; go_simp; try with_reducible rfl
  try simp only [Act.put, List.setIfInBounds_toArray, List.set_cons_zero, List.set_cons_succ]
  refine wpAnyH_take (i := 9) (v := ?z742) (by simp; rfl) (by kernel_rfl) (by kernel_rfl) (by kernel_rfl) (by exact fun _ _ _ h => h) (Or.inl ⟨by rfl, ?y742⟩) hHeld ?_
  case y742 => intro _ h; have := Ex1.mk h; go_simp; try with_reducible rfl
  try simp only [Act.put, List.setIfInBounds_toArray, List.set_cons_zero, List.set_cons_succ]
  refine wpAnyH_take (i := 10) (v := ?z743) (by simp; rfl) (by kernel_rfl) (by kernel_rfl) (by kernel_rfl) (by exact fun _ _ _ h => h) (Or.inl ⟨by rfl, ?y743⟩) hHeld ?_
  case y743 => intro _ h; have := Ex1.mk h; go_simp; try with_reducible rfl
  try simp only [Act.put, List.setIfInBounds_toArray, List.set_cons_zero, List.set_cons_succ]
  refine wpAnyH_take (i := 11) (v := ?z744) (by simp; rfl) (by kernel_rfl) (by kernel_rfl) (by kernel_rfl) (by exact fun _ _ _ h => h) (Or.inl ⟨by rfl, ?y744⟩) hHeld ?_
  case y744 => intro _ h; have := Ex1.mk h; go_simp; try with_reducible rfl
  try simp only [Act.put, List.setIfInBounds_toArray, List.set_cons_zero, List.set_cons_succ]
  refine wpAnyH_ready (rs := [5]) (by kernel_rfl) (by simp) ?_
  refine AllReadyH.cons (by simp; rfl) (fun K hK => ?_) AllReadyH.nil
  go_simp
  (go_at_call 107; (with_reducible refine Calls.cQ (numTimesC (by omega)) ?_); intros)
  refine hK.out _ _ inferInstance ?_
  clear hHeld hK K; intro hHeld
  try simp only [Act.put, List.setIfInBounds_toArray, List.set_cons_zero, List.set_cons_succ]
  refine wpAnyH_ready (rs := [6]) (by kernel_rfl) (by simp) ?_
  refine AllReadyH.cons (by simp; rfl) (fun K hK => ?_) AllReadyH.nil
  go_simp
  (go_at_call 106; (with_reducible refine Calls.cQ (numPlusC (by omega)) ?_); intros)
  refine hK.out _ _ inferInstance ?_
  clear hHeld hK K; intro hHeld
  try simp only [Act.put, List.setIfInBounds_toArray, List.set_cons_zero, List.set_cons_succ]
  refine wpAnyH_ready (rs := [12]) (by kernel_rfl) (by simp) ?_
  refine AllReadyH.cons (by simp; rfl) (fun K hK => ?_) AllReadyH.nil
  go_simp
  (go_at_call 107; (with_reducible refine Calls.cQ (numTimesC (by omega)) ?_); intros)
  refine hK.out _ _ inferInstance ?_
  clear hHeld hK K; intro hHeld
  try simp only [Act.put, List.setIfInBounds_toArray, List.set_cons_zero, List.set_cons_succ]
  refine wpAnyH_ready (rs := [13]) (by kernel_rfl) (by simp) ?_
  refine AllReadyH.cons (by simp; rfl) (fun K hK => ?_) AllReadyH.nil
  go_simp
  (go_at_call 106; (with_reducible refine Calls.cQ (numPlusC (by omega)) ?_); intros)
  refine hK.out _ _ inferInstance ?_
  clear hHeld hK K; intro hHeld
  try simp only [Act.put, List.setIfInBounds_toArray, List.set_cons_zero, List.set_cons_succ]
  refine wpAnyH_take (i := 14) (v := ?z745) (by simp; rfl) (by kernel_rfl) (by kernel_rfl) (by kernel_rfl) (by exact fun _ _ _ h => h) (Or.inl ⟨by rfl, ?y745⟩) hHeld ?_
  case y745 => intro _ h; have := Ex1.mk h; go_simp; try with_reducible rfl
  try simp only [Act.put, List.setIfInBounds_toArray, List.set_cons_zero, List.set_cons_succ]
  refine wpAnyH_ready (rs := [15]) (by kernel_rfl) (by simp) ?_
  refine AllReadyH.cons (by simp; rfl) (fun K hK => ?_) AllReadyH.nil
  go_simp
  refine hK.out _ _ inferInstance ?_
  clear hHeld hK K; intro hHeld
  try simp only [Act.put, List.setIfInBounds_toArray, List.set_cons_zero, List.set_cons_succ]
  refine wpAnyH_done (by kernel_rfl) ?_ _
  clear hHeld
  go_wp2
  refine ret_bx rfl Tryz.underlying38 rfl (by kernel_rfl) rfl rfl rfl ?_
  exact CPQRet.fin rfl (by omega) rfl (by omega)
theorem refAtC {w : World} {g1x : Bool} {a1x : Option Addr} {l1x : Nat} {c1x : Nat} {g1y : Bool} {a1y : Option Addr} {l1y : Nat} {c1y : Nat} {g1z : Bool} {a1z : Option Addr} {l1z : Nat} {c1z : Nat} {la lb lc : Int} {g2 : Bool} {a2 : Option Addr} {l2 : Nat} {c2 : Nat} {aa2 : Option Addr} {ll2 : Nat} {cc2 : Nat} {t : Rat} {k1x k1y k1z k2 : Nat} [h1x : CZ w (.agg #[.bool g1x, .slice a1x l1x c1x]) la k1x] [h1y : CZ w (.agg #[.bool g1y, .slice a1y l1y c1y]) lb k1y] [h1z : CZ w (.agg #[.bool g1z, .slice a1z l1z c1z]) lc k1z] [h2 : CQ w (.agg #[.bool g2, .slice a2 l2 c2, .slice aa2 ll2 cc2]) t k2] (b : k1x ≤ 5000 ∧ k1y ≤ 5000 ∧ k1z ≤ 5000 ∧ k2 ≤ 5000) (hv : Hid (LnV la lb lc)) :
    Calls Tryz.prog 68 #[.agg #[.bool g1x, .slice a1x l1x c1x, .bool g1y, .slice a1y l1y c1y, .bool g1z, .slice a1z l1z c1z], .agg #[.bool g2, .slice a2 l2 c2, .slice aa2 ll2 cc2]] w (CPQRet w (-(((lc : Int) : Rat) / (((lb : Int) : Rat) * ((lb : Int) : Rat) + -((la : Int) : Rat) * -((la : Int) : Rat))) * ((la : Int) : Rat) + t * ((lb : Int) : Rat)) (-(((lc : Int) : Rat) / (((lb : Int) : Rat) * ((lb : Int) : Rat) + -((la : Int) : Rat) * -((la : Int) : Rat))) * ((lb : Int) : Rat) + t * -((la : Int) : Rat)) (6 * (max k1x k1y) + k1z + k2 + 80)) := by
  go_enter Tryz.func68, Tryz.ntmps68
  go_wp2_with fail
  refine region_cls (by kernel_rfl) [w.heap.size + 1 + 1] (fun hHeld => ?_)
  refine wpAnyH_take (i := 0) (v := ?z746) (by simp; rfl) (by kernel_rfl) (by kernel_rfl) (by kernel_rfl) (by exact fun _ _ _ h => h) (Or.inl ⟨by rfl, ?y746⟩) hHeld ?_
  case y746 => intro _ h; have := Ex1.mk h; go_simp; try with_reducible rfl
  try simp only [Act.put, List.setIfInBounds_toArray, List.set_cons_zero, List.set_cons_succ]
  refine wpAnyH_take (i := 2) (v := ?z747) (by simp; rfl) (by kernel_rfl) (by kernel_rfl) (by kernel_rfl) (by exact fun _ _ _ h => h) (Or.inl ⟨by rfl, ?y747⟩) hHeld ?_
  case y747 => intro _ h; have := Ex1.mk h; go_simp; try with_reducible rfl
  try simp only [Act.put, List.setIfInBounds_toArray, List.set_cons_zero, List.set_cons_succ]
  refine wpAnyH_take (i := 3) (v := ?z748) (by simp; rfl) (by kernel_rfl) (by kernel_rfl) (by kernel_rfl) (by exact fun _ _ _ h => h) (Or.inl ⟨by rfl, ?y748⟩) hHeld ?_
  case y748 => intro _ h; have := Ex1.mk h; go_simp; try with_reducible rfl
  try simp only [Act.put, List.setIfInBounds_toArray, List.set_cons_zero, List.set_cons_succ]
  refine wpAnyH_ready (rs := [1]) (by kernel_rfl) (by simp) ?_
  refine AllReadyH.cons (by simp; rfl) (fun K hK => ?_) AllReadyH.nil
  go_simp
  (go_at_call 66; (with_reducible refine Calls.cPQ (refBaseC (by omega) hv) ?_); intros)
  refine hK.out _ _ inferInstance ?_
  clear hHeld hK K; intro hHeld
  try simp only [Act.put, List.setIfInBounds_toArray, List.set_cons_zero, List.set_cons_succ]
  refine wpAnyH_ready (rs := [4]) (by kernel_rfl) (by simp) ?_
  refine AllReadyH.cons (by simp; rfl) (fun K hK => ?_) AllReadyH.nil
  go_simp
  (go_at_call 64; (with_reducible refine Calls.cPQ (refDirC (by omega)) ?_); intros)
  refine hK.out _ _ inferInstance ?_
  clear hHeld hK K; intro hHeld
  try simp only [Act.put, List.setIfInBounds_toArray, List.set_cons_zero, List.set_cons_succ]
  refine wpAnyH_ready (rs := [5]) (by kernel_rfl) (by simp) ?_
  refine AllReadyH.cons (by simp; rfl) (fun K hK => ?_) AllReadyH.nil
  go_simp
  (go_at_call 46; (with_reducible refine Calls.cPQ (refPAddB (by omega)) ?_); intros)
  refine hK.out _ _ inferInstance ?_
  clear hHeld hK K; intro hHeld
  try simp only [Act.put, List.setIfInBounds_toArray, List.set_cons_zero, List.set_cons_succ]
  refine wpAnyH_ready (rs := [6]) (by kernel_rfl) (by simp) ?_
  refine AllReadyH.cons (by simp; rfl) (fun K hK => ?_) AllReadyH.nil
  go_simp
  refine hK.out _ _ inferInstance ?_
  clear hHeld hK K; intro hHeld
  try simp only [Act.put, List.setIfInBounds_toArray, List.set_cons_zero, List.set_cons_succ]
  refine wpAnyH_done (by kernel_rfl) ?_ _
  clear hHeld
  go_wp2_with fail
  refine ret_bx rfl Tryz.underlying38 rfl (by kernel_rfl) rfl rfl rfl ?_
  exact CPQRet.fin rfl (by omega) rfl (by omega)
theorem refParamC {w : World} {g1x : Bool} {a1x : Option Addr} {l1x : Nat} {c1x : Nat} {g1y : Bool} {a1y : Option Addr} {l1y : Nat} {c1y : Nat} {g1z : Bool} {a1z : Option Addr} {l1z : Nat} {c1z : Nat} {la lb lc : Int} {g2x : Bool} {a2x : Option Addr} {l2x : Nat} {c2x : Nat} {aa2x : Option Addr} {ll2x : Nat} {cc2x : Nat} {g2y : Bool} {a2y : Option Addr} {l2y : Nat} {c2y : Nat} {aa2y : Option Addr} {ll2y : Nat} {cc2y : Nat} {x y : Rat} {k1x k1y k1z k2x k2y : Nat} [h1x : CZ w (.agg #[.bool g1x, .slice a1x l1x c1x]) la k1x] [h1y : CZ w (.agg #[.bool g1y, .slice a1y l1y c1y]) lb k1y] [h1z : CZ w (.agg #[.bool g1z, .slice a1z l1z c1z]) lc k1z] [h2x : CQ w (.agg #[.bool g2x, .slice a2x l2x c2x, .slice aa2x ll2x cc2x]) x k2x] [h2y : CQ w (.agg #[.bool g2y, .slice a2y l2y c2y, .slice aa2y ll2y cc2y]) y k2y] (b : k1x ≤ 5000 ∧ k1y ≤ 5000 ∧ k1z ≤ 5000 ∧ k2x ≤ 5000 ∧ k2y ≤ 5000) (hv : Hid (LnV la lb lc)) :
    Calls Tryz.prog 70 #[.agg #[.bool g1x, .slice a1x l1x c1x, .bool g1y, .slice a1y l1y c1y, .bool g1z, .slice a1z l1z c1z], .agg #[.bool g2x, .slice a2x l2x c2x, .slice aa2x ll2x cc2x, .bool g2y, .slice a2y l2y c2y, .slice aa2y ll2y cc2y]] w (CQRet w ((x * ((lb : Int) : Rat) + y * -((la : Int) : Rat)) / (((lb : Int) : Rat) * ((lb : Int) : Rat) + -((la : Int) : Rat) * -((la : Int) : Rat))) (6 * (max k1x k1y) + k2x + k2y + 60)) := by
  have HZ := dd_ne hv.out
  go_enter Tryz.func70, Tryz.ntmps70
  go_wp2_with (first
    | (go_at_call 64; (with_reducible refine Calls.cPQ (refDirC (by omega)) ?_); intros))
  refine region_cls (by kernel_rfl) [w.heap.size + 1 + 1] (fun hHeld => ?_)
  refine wpAnyH_take (i := 0) (v := ?z749) (by simp; rfl) (by kernel_rfl) (by kernel_rfl) (by kernel_rfl) (by exact fun _ _ _ h => h) (Or.inl ⟨by rfl, ?y749⟩) hHeld ?_
  case y749 => intro _ h; have := Ex1.mk h; go_simp; try with_reducible rfl
  try simp only [Act.put, List.setIfInBounds_toArray, List.set_cons_zero, List.set_cons_succ]
  refine wpAnyH_take (i := 1) (v := ?z750) (by simp; rfl) (by kernel_rfl) (by kernel_rfl) (by kernel_rfl) (by exact fun _ _ _ h => h) (Or.inl ⟨by rfl, ?y750⟩) hHeld ?_
  case y750 => intro _ h; have := Ex1.mk h; go_simp; try with_reducible rfl
  try simp only [Act.put, List.setIfInBounds_toArray, List.set_cons_zero, List.set_cons_succ]
  refine wpAnyH_take (i := 3) (v := ?z751) (by simp; rfl) (by kernel_rfl) (by kernel_rfl) (by kernel_rfl) (by exact fun _ _ _ h => h) (Or.inl ⟨by rfl, ?y751⟩) hHeld ?_
  case y751 => intro _ h; have := Ex1.mk h; go_simp; try with_reducible rfl
  try simp only [Act.put, List.setIfInBounds_toArray, List.set_cons_zero, List.set_cons_succ]
  refine wpAnyH_take (i := 4) (v := ?z752) (by simp; rfl) (by kernel_rfl) (by kernel_rfl) (by kernel_rfl) (by exact fun _ _ _ h => h) (Or.inl ⟨by rfl, ?y752⟩) hHeld ?_
  case y752 => intro _ h; have := Ex1.mk h; go_simp; try with_reducible rfl
  try simp only [Act.put, List.setIfInBounds_toArray, List.set_cons_zero, List.set_cons_succ]
  refine wpAnyH_ready (rs := [2]) (by kernel_rfl) (by simp) ?_
  refine AllReadyH.cons (by simp; rfl) (fun K hK => ?_) AllReadyH.nil
  go_simp
  (go_at_call 129; (with_reducible refine Calls.cQ (refDotC (by omega)) ?_); intros)
  refine hK.out _ _ inferInstance ?_
  clear hHeld hK K; intro hHeld
  try simp only [Act.put, List.setIfInBounds_toArray, List.set_cons_zero, List.set_cons_succ]
  refine wpAnyH_ready (rs := [5]) (by kernel_rfl) (by simp) ?_
  refine AllReadyH.cons (by simp; rfl) (fun K hK => ?_) AllReadyH.nil
  go_simp
  (go_at_call 129; (with_reducible refine Calls.cQ (refDotC (by omega)) ?_); intros)
  refine hK.out _ _ inferInstance ?_
  clear hHeld hK K; intro hHeld
  try simp only [Act.put, List.setIfInBounds_toArray, List.set_cons_zero, List.set_cons_succ]
  refine wpAnyH_ready (rs := [6]) (by kernel_rfl) (by simp) ?_
  refine AllReadyH.cons (by simp; rfl) (fun K hK => ?_) AllReadyH.nil
  go_simp
  (go_at_call 144; (with_reducible refine Calls.cQ (numOverC (by omega) HZ.out) ?_); intros)
  refine hK.out _ _ inferInstance ?_
  clear hHeld hK K; intro hHeld
  try simp only [Act.put, List.setIfInBounds_toArray, List.set_cons_zero, List.set_cons_succ]
  refine wpAnyH_ready (rs := [7]) (by kernel_rfl) (by simp) ?_
  refine AllReadyH.cons (by simp; rfl) (fun K hK => ?_) AllReadyH.nil
  go_simp
  refine hK.out _ _ inferInstance ?_
  clear hHeld hK K; intro hHeld
  try simp only [Act.put, List.setIfInBounds_toArray, List.set_cons_zero, List.set_cons_succ]
  refine wpAnyH_done (by kernel_rfl) ?_ _
  clear hHeld
  go_wp2_with fail
  refine ret_bx rfl Tryz.underlying36 rfl (by kernel_rfl) rfl rfl rfl ?_
  exact CQRet.fin rfl (by omega)
theorem sameP05B {w : World} {g1x : Bool} {a1x : Option Addr} {l1x : Nat} {c1x : Nat} {aa1x : Option Addr} {ll1x : Nat} {cc1x : Nat} {g1y : Bool} {a1y : Option Addr} {l1y : Nat} {c1y : Nat} {aa1y : Option Addr} {ll1y : Nat} {cc1y : Nat} {x1 y1 : Rat} {g2x : Bool} {a2x : Option Addr} {l2x : Nat} {c2x : Nat} {aa2x : Option Addr} {ll2x : Nat} {cc2x : Nat} {g2y : Bool} {a2y : Option Addr} {l2y : Nat} {c2y : Nat} {aa2y : Option Addr} {ll2y : Nat} {cc2y : Nat} {x2 y2 : Rat} {k1x k1y k2x k2y : Nat} [h1x : CA w (.agg #[.bool g1x, .slice a1x l1x c1x, .slice aa1x ll1x cc1x]) x1 k1x] [h1y : CA w (.agg #[.bool g1y, .slice a1y l1y c1y, .slice aa1y ll1y cc1y]) y1 k1y] [h2x : CQ w (.agg #[.bool g2x, .slice a2x l2x c2x, .slice aa2x ll2x cc2x]) x2 k2x] [h2y : CQ w (.agg #[.bool g2y, .slice a2y l2y c2y, .slice aa2y ll2y cc2y]) y2 k2y] (b : k1x ≤ 390000 ∧ k1y ≤ 390000 ∧ k2x ≤ 390000 ∧ k2y ≤ 390000) (hx : x1 = x2) (hy : y1 = y2) :
    Calls Tryz.prog 62 #[.agg #[.bool g1x, .slice a1x l1x c1x, .slice aa1x ll1x cc1x, .bool g1y, .slice a1y l1y c1y, .slice aa1y ll1y cc1y], .agg #[.bool g2x, .slice a2x l2x c2x, .slice aa2x ll2x cc2x, .bool g2y, .slice a2y l2y c2y, .slice aa2y ll2y cc2y]] w (fun e w' => e = .returned (.bool true) ∧ Below w.heap.size w w') := by
  subst hx hy
  go_enter Tryz.func62, Tryz.ntmps62
  go_wp2_with fail
  refine region_cls (by kernel_rfl) [] (fun hHeld => ?_)
  refine wpAnyH_take (i := 0) (v := ?z753) (by simp; rfl) (by kernel_rfl) (by kernel_rfl) (by kernel_rfl) (by exact fun _ _ _ h => h) (Or.inl ⟨by rfl, ?y753⟩) hHeld ?_
  case y753 => intro _ h; have := Ex1.mk h; go_simp; try with_reducible rfl
  try simp only [Act.put, List.setIfInBounds_toArray, List.set_cons_zero, List.set_cons_succ]
  refine wpAnyH_take (i := 1) (v := ?z754) (by simp; rfl) (by kernel_rfl) (by kernel_rfl) (by kernel_rfl) (by exact fun _ _ _ h => h) (Or.inl ⟨by rfl, ?y754⟩) hHeld ?_
  case y754 => intro _ h; have := Ex1.mk h; go_simp; try with_reducible rfl
  try simp only [Act.put, List.setIfInBounds_toArray, List.set_cons_zero, List.set_cons_succ]
  refine wpAnyH_ready (rs := [2]) (by kernel_rfl) (by simp) ?_
  refine AllReadyH.cons (by simp; rfl) (fun K hK => ?_) AllReadyH.nil
  go_simp
  (go_at_call 33; (with_reducible refine Calls.cPA (toPC (by omega)) ?_); intros)
  refine hK.out _ _ inferInstance ?_
  clear hHeld hK K; intro hHeld
  try simp only [Act.put, List.setIfInBounds_toArray, List.set_cons_zero, List.set_cons_succ]
  refine wpAnyH_ready (rs := [3]) (by kernel_rfl) (by simp) ?_
  refine AllReadyH.cons (by simp; rfl) (fun K hK => ?_) AllReadyH.nil
  go_simp
  (go_at_call 74; (with_reducible refine Calls.cE (samePC rfl rfl) ?_); intros)
  refine hK.out _ _ inferInstance ?_
  clear hHeld hK K; intro hHeld
  try simp only [Act.put, List.setIfInBounds_toArray, List.set_cons_zero, List.set_cons_succ]
  refine wpAnyH_take (i := 4) (v := ?z755) (by simp; rfl) (by kernel_rfl) (by kernel_rfl) (by kernel_rfl) (by exact fun _ _ _ h => h) (Or.inl ⟨by rfl, ?y755⟩) hHeld ?_
  case y755 => intro _ h; have := Ex1.mk h; go_simp; try with_reducible rfl
  try simp only [Act.put, List.setIfInBounds_toArray, List.set_cons_zero, List.set_cons_succ]
  refine wpAnyH_done (by kernel_rfl) ?_ _
  clear hHeld
  go_wp2_with fail
  go_ret
  exact E.fin rfl
end Go.Proofs.YtlameeijogdckaaGreat
namespace Go.Proofs.YtlameeijogdckaaGreat
set_option maxRecDepth 100000
set_option maxHeartbeats 4000000
set_option synthInstance.maxSize 100000
set_option synthInstance.maxHeartbeats 1000000
open Go.RowKit
set_option linter.unusedSimpArgs false
set_option maxRecDepth 100000 in
set_option maxHeartbeats 40000000 in
set_option synthInstance.maxSize 100000 in
set_option synthInstance.maxHeartbeats 1000000 in
theorem lineComputes_walk (a0 : Option Addr) (len0 cap0 : Nat) (z0 : List Int) (w : World) (w0 : IsRow .i64 w a0 len0 cap0 z0) :
    Calls Tryz.prog 7 #[.slice a0 len0 cap0] w fun e w' => e = .returned (.bool true) ∧ Below w.heap.size w w' := by
  go_enter Tryz.func7, Tryz.ntmps7
  go_wp2_with fail
  with_reducible refine Calls.cNew (newW w0) ?_
  intro W1 _ _
  go_wp2_with fail
  with_reducible refine Calls.cTL tapeLC ?_
  intro W2 _ _ gx ax lx cx gy ay ly cy gz az lz cz la lb lc _ _ _ hv
  go_wp2_with fail
  with_reducible refine Calls.cTP tapePointC ?_
  intros
  go_wp2_with fail
  with_reducible refine Calls.cTQ tapeQC ?_
  intros
  go_wp2_with (first | (go_at_call 56; (with_reducible refine Calls.cLZ (toLC (by omega)) ?_); intros))
  refine region_cls (by kernel_rfl) [] (fun hHeld => ?_)
  refine wpAnyH_ready (rs := [0]) (by kernel_rfl) (by simp) ?_
  refine AllReadyH.cons (by simp; rfl) (fun K hK => ?_) AllReadyH.nil
  go_simp
  (go_at_call 24; (with_reducible refine Calls.cE (known05C) ?_); intros)
  refine hK.out _ _ inferInstance ?_
  clear hHeld hK K; intro hHeld
  try simp only [Act.put, List.setIfInBounds_toArray, List.set_cons_zero, List.set_cons_succ]
  refine wpAnyH_take (i := 1) (v := ?z756) (by simp; rfl) (by kernel_rfl) (by kernel_rfl) (by kernel_rfl) (by exact fun _ _ _ h => h) (Or.inl ⟨by rfl, ?y756⟩) hHeld ?_
  case y756 => intro _ h; have := Ex1.mk h; go_simp; try with_reducible rfl
  try simp only [Act.put, List.setIfInBounds_toArray, List.set_cons_zero, List.set_cons_succ]
  refine wpAnyH_take (i := 2) (v := ?z757) (by simp; rfl) (by kernel_rfl) (by kernel_rfl) (by kernel_rfl) (by exact fun _ _ _ h => h) (Or.inl ⟨by rfl, ?y757⟩) hHeld ?_
  case y757 => intro _ h; have := Ex1.mk h; go_simp; try with_reducible rfl
  try simp only [Act.put, List.setIfInBounds_toArray, List.set_cons_zero, List.set_cons_succ]
  refine wpAnyH_take (i := 3) (v := ?z758) (by simp; rfl) (by kernel_rfl) (by kernel_rfl) (by kernel_rfl) (by exact fun _ _ _ h => h) (Or.inl ⟨by rfl, ?y758⟩) hHeld ?_
  case y758 => intro _ h; have := Ex1.mk h; go_simp; try with_reducible rfl
  try simp only [Act.put, List.setIfInBounds_toArray, List.set_cons_zero, List.set_cons_succ]
  refine wpAnyH_take (i := 6) (v := ?z759) (by simp; rfl) (by kernel_rfl) (by kernel_rfl) (by kernel_rfl) (by exact fun _ _ _ h => h) (Or.inl ⟨by rfl, ?y759⟩) hHeld ?_
  case y759 => intro _ h; have := Ex1.mk h; go_simp; try with_reducible rfl
  try simp only [Act.put, List.setIfInBounds_toArray, List.set_cons_zero, List.set_cons_succ]
  refine wpAnyH_take (i := 7) (v := ?z760) (by simp; rfl) (by kernel_rfl) (by kernel_rfl) (by kernel_rfl) (by exact fun _ _ _ h => h) (Or.inl ⟨by rfl, ?y760⟩) hHeld ?_
  case y760 => intro _ h; have := Ex1.mk h; go_simp; try with_reducible rfl
  try simp only [Act.put, List.setIfInBounds_toArray, List.set_cons_zero, List.set_cons_succ]
  refine wpAnyH_ready (rs := [4]) (by kernel_rfl) (by simp) ?_
  refine AllReadyH.cons (by simp; rfl) (fun K hK => ?_) AllReadyH.nil
  go_simp
  (go_at_call 33; (with_reducible refine Calls.cPA (toPC (by omega)) ?_); intros)
  refine hK.out _ _ inferInstance ?_
  clear hHeld hK K; intro hHeld
  try simp only [Act.put, List.setIfInBounds_toArray, List.set_cons_zero, List.set_cons_succ]
  refine wpAnyH_ready (rs := [5]) (by kernel_rfl) (by simp) ?_
  refine AllReadyH.cons (by simp; rfl) (fun K hK => ?_) AllReadyH.nil
  go_simp
  (go_at_call 58; (with_reducible refine Calls.cA (lineValueC (by omega) hv) ?_); intros)
  refine hK.out _ _ inferInstance ?_
  clear hHeld hK K; intro hHeld
  try simp only [Act.put, List.setIfInBounds_toArray, List.set_cons_zero, List.set_cons_succ]
  refine wpAnyH_ready (rs := [8]) (by kernel_rfl) (by simp) ?_
  refine AllReadyH.cons (by simp; rfl) (fun K hK => ?_) AllReadyH.nil
  go_simp
  (go_at_call 59; (with_reducible refine Calls.cQ (refValueC (by omega)) ?_); intros)
  refine hK.out _ _ inferInstance ?_
  clear hHeld hK K; intro hHeld
  try simp only [Act.put, List.setIfInBounds_toArray, List.set_cons_zero, List.set_cons_succ]
  refine wpAnyH_ready (rs := [9]) (by kernel_rfl) (by simp) ?_
  refine AllReadyH.cons (by simp; rfl) (fun K hK => ?_) AllReadyH.nil
  go_simp
  (go_at_call 38; (with_reducible refine Calls.cA (toQC (by omega)) ?_); intros)
  refine hK.out _ _ inferInstance ?_
  clear hHeld hK K; intro hHeld
  try simp only [Act.put, List.setIfInBounds_toArray, List.set_cons_zero, List.set_cons_succ]
  refine wpAnyH_ready (rs := [10]) (by kernel_rfl) (by simp) ?_
  refine AllReadyH.cons (by simp; rfl) (fun K hK => ?_) AllReadyH.nil
  go_simp
  (go_at_call 57; (with_reducible refine Calls.cE (sameQC rfl) ?_); intros)
  refine hK.out _ _ inferInstance ?_
  clear hHeld hK K; intro hHeld
  try simp only [Act.put, List.setIfInBounds_toArray, List.set_cons_zero, List.set_cons_succ]
  refine wpAnyH_take (i := 11) (v := ?z761) (by simp; rfl) (by kernel_rfl) (by kernel_rfl) (by kernel_rfl) (by exact fun _ _ _ h => h) (Or.inl ⟨by rfl, ?y761⟩) hHeld ?_
  case y761 => intro _ h; have := Ex1.mk h; go_simp; try with_reducible rfl
  try simp only [Act.put, List.setIfInBounds_toArray, List.set_cons_zero, List.set_cons_succ]
  refine wpAnyH_take (i := 12) (v := ?z762) (by simp; rfl) (by kernel_rfl) (by kernel_rfl) (by kernel_rfl) (by exact fun _ _ _ h => h) (Or.inl ⟨by rfl, ?y762⟩) hHeld ?_
  case y762 => intro _ h; have := Ex1.mk h; go_simp; try with_reducible rfl
  try simp only [Act.put, List.setIfInBounds_toArray, List.set_cons_zero, List.set_cons_succ]
  refine wpAnyH_take (i := 13) (v := ?z763) (by simp; rfl) (by kernel_rfl) (by kernel_rfl) (by kernel_rfl) (by exact fun _ _ _ h => h) (Or.inl ⟨by rfl, ?y763⟩) hHeld ?_
  case y763 => intro _ h; have := Ex1.mk h; go_simp; try with_reducible rfl
  try simp only [Act.put, List.setIfInBounds_toArray, List.set_cons_zero, List.set_cons_succ]
  refine wpAnyH_take (i := 14) (v := ?z764) (by simp; rfl) (by kernel_rfl) (by kernel_rfl) (by kernel_rfl) (by exact fun _ _ _ h => h) (Or.inl ⟨by rfl, ?y764⟩) hHeld ?_
  case y764 => intro _ h; have := Ex1.mk h; go_simp; try with_reducible rfl
  try simp only [Act.put, List.setIfInBounds_toArray, List.set_cons_zero, List.set_cons_succ]
  refine wpAnyH_take (i := 17) (v := ?z765) (by simp; rfl) (by kernel_rfl) (by kernel_rfl) (by kernel_rfl) (by exact fun _ _ _ h => h) (Or.inl ⟨by rfl, ?y765⟩) hHeld ?_
  case y765 => intro _ h; have := Ex1.mk h; go_simp; try with_reducible rfl
  try simp only [Act.put, List.setIfInBounds_toArray, List.set_cons_zero, List.set_cons_succ]
  refine wpAnyH_take (i := 18) (v := ?z766) (by simp; rfl) (by kernel_rfl) (by kernel_rfl) (by kernel_rfl) (by exact fun _ _ _ h => h) (Or.inl ⟨by rfl, ?y766⟩) hHeld ?_
  case y766 => intro _ h; have := Ex1.mk h; go_simp; try with_reducible rfl
  try simp only [Act.put, List.setIfInBounds_toArray, List.set_cons_zero, List.set_cons_succ]
  refine wpAnyH_ready (rs := [15]) (by kernel_rfl) (by simp) ?_
  refine AllReadyH.cons (by simp; rfl) (fun K hK => ?_) AllReadyH.nil
  go_simp
  (go_at_call 33; (with_reducible refine Calls.cPA (toPC (by omega)) ?_); intros)
  refine hK.out _ _ inferInstance ?_
  clear hHeld hK K; intro hHeld
  try simp only [Act.put, List.setIfInBounds_toArray, List.set_cons_zero, List.set_cons_succ]
  refine wpAnyH_ready (rs := [16]) (by kernel_rfl) (by simp) ?_
  refine AllReadyH.cons (by simp; rfl) (fun K hK => ?_) AllReadyH.nil
  go_simp
  (go_at_call 60; (with_reducible refine Calls.cE (lineSideC (by omega) hv) ?_); intros)
  refine hK.out _ _ inferInstance ?_
  clear hHeld hK K; intro hHeld
  try simp only [Act.put, List.setIfInBounds_toArray, List.set_cons_zero, List.set_cons_succ]
  refine wpAnyH_ready (rs := [19]) (by kernel_rfl) (by simp) ?_
  refine AllReadyH.cons (by simp; rfl) (fun K hK => ?_) AllReadyH.nil
  go_simp
  (go_at_call 61; (with_reducible refine Calls.cE (refSideC (by omega)) ?_); intros)
  refine hK.out _ _ inferInstance ?_
  clear hHeld hK K; intro hHeld
  try simp only [Act.put, List.setIfInBounds_toArray, List.set_cons_zero, List.set_cons_succ]
  refine wpAnyH_take (i := 20) (v := ?z767) (by simp; rfl) (by kernel_rfl) (by kernel_rfl) (by kernel_rfl) (by exact fun _ _ _ h => h) (Or.inl ⟨by rfl, ?y767⟩) hHeld ?_
  case y767 => intro _ h; have := Ex1.mk h; go_simp; try with_reducible rfl
  try simp only [Act.put, List.setIfInBounds_toArray, List.set_cons_zero, List.set_cons_succ]
  refine wpAnyH_take (i := 21) (v := ?z768) (by simp; rfl) (by kernel_rfl) (by kernel_rfl) (by kernel_rfl) (by exact fun _ _ _ h => h) (Or.inl ⟨by rfl, ?y768⟩) hHeld ?_
  case y768 => intro _ h; have := Ex1.mk h; go_simp; try with_reducible rfl
  try simp only [Act.put, List.setIfInBounds_toArray, List.set_cons_zero, List.set_cons_succ]
  refine wpAnyH_take (i := 22) (v := ?z769) (by simp; rfl) (by kernel_rfl) (by kernel_rfl) (by kernel_rfl) (by exact fun _ _ _ h => h) (Or.inl ⟨by rfl, ?y769⟩) hHeld ?_
  case y769 => intro _ h; have := Ex1.mk h; go_simp; try with_reducible rfl
  try simp only [Act.put, List.setIfInBounds_toArray, List.set_cons_zero, List.set_cons_succ]
  refine wpAnyH_take (i := 23) (v := ?z770) (by simp; rfl) (by kernel_rfl) (by kernel_rfl) (by kernel_rfl) (by exact fun _ _ _ h => h) (Or.inl ⟨by rfl, ?y770⟩) hHeld ?_
  case y770 => intro _ h; have := Ex1.mk h; go_simp; try with_reducible rfl
  try simp only [Act.put, List.setIfInBounds_toArray, List.set_cons_zero, List.set_cons_succ]
  refine wpAnyH_take (i := 25) (v := ?z771) (by simp; rfl) (by kernel_rfl) (by kernel_rfl) (by kernel_rfl) (by exact fun _ _ _ h => h) (Or.inl ⟨by rfl, ?y771⟩) hHeld ?_
  case y771 => intro _ h; have := Ex1.mk h; go_simp; try with_reducible rfl
  try simp only [Act.put, List.setIfInBounds_toArray, List.set_cons_zero, List.set_cons_succ]
  refine wpAnyH_ready (rs := [24]) (by kernel_rfl) (by simp) ?_
  refine AllReadyH.cons (by simp; rfl) (fun K hK => ?_) AllReadyH.nil
  go_simp
  (go_at_call 63; (with_reducible refine Calls.cPA (lineDirectionC (by omega) hv) ?_); intros)
  refine hK.out _ _ inferInstance ?_
  clear hHeld hK K; intro hHeld
  try simp only [Act.put, List.setIfInBounds_toArray, List.set_cons_zero, List.set_cons_succ]
  refine wpAnyH_ready (rs := [26]) (by kernel_rfl) (by simp) ?_
  refine AllReadyH.cons (by simp; rfl) (fun K hK => ?_) AllReadyH.nil
  go_simp
  (go_at_call 64; (with_reducible refine Calls.cPQ (refDirC (by omega)) ?_); intros)
  refine hK.out _ _ inferInstance ?_
  clear hHeld hK K; intro hHeld
  try simp only [Act.put, List.setIfInBounds_toArray, List.set_cons_zero, List.set_cons_succ]
  refine wpAnyH_ready (rs := [27]) (by kernel_rfl) (by simp) ?_
  refine AllReadyH.cons (by simp; rfl) (fun K hK => ?_) AllReadyH.nil
  go_simp
  (go_at_call 62; (with_reducible refine Calls.cE (sameP05B (by omega) rfl rfl) ?_); intros)
  refine hK.out _ _ inferInstance ?_
  clear hHeld hK K; intro hHeld
  try simp only [Act.put, List.setIfInBounds_toArray, List.set_cons_zero, List.set_cons_succ]
  refine wpAnyH_take (i := 28) (v := ?z772) (by simp; rfl) (by kernel_rfl) (by kernel_rfl) (by kernel_rfl) (by exact fun _ _ _ h => h) (Or.inl ⟨by rfl, ?y772⟩) hHeld ?_
  case y772 => intro _ h; have := Ex1.mk h; go_simp; try with_reducible rfl
  try simp only [Act.put, List.setIfInBounds_toArray, List.set_cons_zero, List.set_cons_succ]
  refine wpAnyH_take (i := 29) (v := ?z773) (by simp; rfl) (by kernel_rfl) (by kernel_rfl) (by kernel_rfl) (by exact fun _ _ _ h => h) (Or.inl ⟨by rfl, ?y773⟩) hHeld ?_
  case y773 => intro _ h; have := Ex1.mk h; go_simp; try with_reducible rfl
  try simp only [Act.put, List.setIfInBounds_toArray, List.set_cons_zero, List.set_cons_succ]
  refine wpAnyH_take (i := 30) (v := ?z774) (by simp; rfl) (by kernel_rfl) (by kernel_rfl) (by kernel_rfl) (by exact fun _ _ _ h => h) (Or.inl ⟨by rfl, ?y774⟩) hHeld ?_
  case y774 => intro _ h; have := Ex1.mk h; go_simp; try with_reducible rfl
  try simp only [Act.put, List.setIfInBounds_toArray, List.set_cons_zero, List.set_cons_succ]
  refine wpAnyH_take (i := 32) (v := ?z775) (by simp; rfl) (by kernel_rfl) (by kernel_rfl) (by kernel_rfl) (by exact fun _ _ _ h => h) (Or.inl ⟨by rfl, ?y775⟩) hHeld ?_
  case y775 => intro _ h; have := Ex1.mk h; go_simp; try with_reducible rfl
  try simp only [Act.put, List.setIfInBounds_toArray, List.set_cons_zero, List.set_cons_succ]
  refine wpAnyH_ready (rs := [31]) (by kernel_rfl) (by simp) ?_
  refine AllReadyH.cons (by simp; rfl) (fun K hK => ?_) AllReadyH.nil
  go_simp
  (go_at_call 65; (with_reducible refine Calls.cPA (lineBaseC (by omega) hv) ?_); intros)
  refine hK.out _ _ inferInstance ?_
  clear hHeld hK K; intro hHeld
  try simp only [Act.put, List.setIfInBounds_toArray, List.set_cons_zero, List.set_cons_succ]
  refine wpAnyH_ready (rs := [33]) (by kernel_rfl) (by simp) ?_
  refine AllReadyH.cons (by simp; rfl) (fun K hK => ?_) AllReadyH.nil
  go_simp
  (go_at_call 66; (with_reducible refine Calls.cPQ (refBaseC (by omega) hv) ?_); intros)
  refine hK.out _ _ inferInstance ?_
  clear hHeld hK K; intro hHeld
  try simp only [Act.put, List.setIfInBounds_toArray, List.set_cons_zero, List.set_cons_succ]
  refine wpAnyH_ready (rs := [34]) (by kernel_rfl) (by simp) ?_
  refine AllReadyH.cons (by simp; rfl) (fun K hK => ?_) AllReadyH.nil
  go_simp
  (go_at_call 62; (with_reducible refine Calls.cE (sameP05B (by omega) base_x base_y) ?_); intros)
  refine hK.out _ _ inferInstance ?_
  clear hHeld hK K; intro hHeld
  try simp only [Act.put, List.setIfInBounds_toArray, List.set_cons_zero, List.set_cons_succ]
  refine wpAnyH_take (i := 35) (v := ?z776) (by simp; rfl) (by kernel_rfl) (by kernel_rfl) (by kernel_rfl) (by exact fun _ _ _ h => h) (Or.inl ⟨by rfl, ?y776⟩) hHeld ?_
  case y776 => intro _ h; have := Ex1.mk h; go_simp; try with_reducible rfl
  try simp only [Act.put, List.setIfInBounds_toArray, List.set_cons_zero, List.set_cons_succ]
  refine wpAnyH_take (i := 36) (v := ?z777) (by simp; rfl) (by kernel_rfl) (by kernel_rfl) (by kernel_rfl) (by exact fun _ _ _ h => h) (Or.inl ⟨by rfl, ?y777⟩) hHeld ?_
  case y777 => intro _ h; have := Ex1.mk h; go_simp; try with_reducible rfl
  try simp only [Act.put, List.setIfInBounds_toArray, List.set_cons_zero, List.set_cons_succ]
  refine wpAnyH_take (i := 37) (v := ?z778) (by simp; rfl) (by kernel_rfl) (by kernel_rfl) (by kernel_rfl) (by exact fun _ _ _ h => h) (Or.inl ⟨by rfl, ?y778⟩) hHeld ?_
  case y778 => intro _ h; have := Ex1.mk h; go_simp; try with_reducible rfl
  try simp only [Act.put, List.setIfInBounds_toArray, List.set_cons_zero, List.set_cons_succ]
  refine wpAnyH_take (i := 38) (v := ?z779) (by simp; rfl) (by kernel_rfl) (by kernel_rfl) (by kernel_rfl) (by exact fun _ _ _ h => h) (Or.inl ⟨by rfl, ?y779⟩) hHeld ?_
  case y779 => intro _ h; have := Ex1.mk h; go_simp; try with_reducible rfl
  try simp only [Act.put, List.setIfInBounds_toArray, List.set_cons_zero, List.set_cons_succ]
  refine wpAnyH_take (i := 41) (v := ?z780) (by simp; rfl) (by kernel_rfl) (by kernel_rfl) (by kernel_rfl) (by exact fun _ _ _ h => h) (Or.inl ⟨by rfl, ?y780⟩) hHeld ?_
  case y780 => intro _ h; have := Ex1.mk h; go_simp; try with_reducible rfl
  try simp only [Act.put, List.setIfInBounds_toArray, List.set_cons_zero, List.set_cons_succ]
  refine wpAnyH_take (i := 42) (v := ?z781) (by simp; rfl) (by kernel_rfl) (by kernel_rfl) (by kernel_rfl) (by exact fun _ _ _ h => h) (Or.inl ⟨by rfl, ?y781⟩) hHeld ?_
  case y781 => intro _ h; have := Ex1.mk h; go_simp; try with_reducible rfl
  try simp only [Act.put, List.setIfInBounds_toArray, List.set_cons_zero, List.set_cons_succ]
  refine wpAnyH_ready (rs := [39]) (by kernel_rfl) (by simp) ?_
  refine AllReadyH.cons (by simp; rfl) (fun K hK => ?_) AllReadyH.nil
  go_simp
  (go_at_call 38; (with_reducible refine Calls.cA (toQC (by omega)) ?_); intros)
  refine hK.out _ _ inferInstance ?_
  clear hHeld hK K; intro hHeld
  try simp only [Act.put, List.setIfInBounds_toArray, List.set_cons_zero, List.set_cons_succ]
  refine wpAnyH_ready (rs := [40]) (by kernel_rfl) (by simp) ?_
  refine AllReadyH.cons (by simp; rfl) (fun K hK => ?_) AllReadyH.nil
  go_simp
  (go_at_call 67; (with_reducible refine Calls.cPA (lineAtC (by omega) hv) ?_); intros)
  refine hK.out _ _ inferInstance ?_
  clear hHeld hK K; intro hHeld
  try simp only [Act.put, List.setIfInBounds_toArray, List.set_cons_zero, List.set_cons_succ]
  refine wpAnyH_ready (rs := [43]) (by kernel_rfl) (by simp) ?_
  refine AllReadyH.cons (by simp; rfl) (fun K hK => ?_) AllReadyH.nil
  go_simp
  (go_at_call 68; (with_reducible refine Calls.cPQ (refAtC (by omega) hv) ?_); intros)
  refine hK.out _ _ inferInstance ?_
  clear hHeld hK K; intro hHeld
  try simp only [Act.put, List.setIfInBounds_toArray, List.set_cons_zero, List.set_cons_succ]
  refine wpAnyH_ready (rs := [44]) (by kernel_rfl) (by simp) ?_
  refine AllReadyH.cons (by simp; rfl) (fun K hK => ?_) AllReadyH.nil
  go_simp
  (go_at_call 62; (with_reducible refine Calls.cE (sameP05B (by omega) at_x at_y) ?_); intros)
  refine hK.out _ _ inferInstance ?_
  clear hHeld hK K; intro hHeld
  try simp only [Act.put, List.setIfInBounds_toArray, List.set_cons_zero, List.set_cons_succ]
  refine wpAnyH_take (i := 45) (v := ?z782) (by simp; rfl) (by kernel_rfl) (by kernel_rfl) (by kernel_rfl) (by exact fun _ _ _ h => h) (Or.inl ⟨by rfl, ?y782⟩) hHeld ?_
  case y782 => intro _ h; have := Ex1.mk h; go_simp; try with_reducible rfl
  try simp only [Act.put, List.setIfInBounds_toArray, List.set_cons_zero, List.set_cons_succ]
  refine wpAnyH_take (i := 46) (v := ?z783) (by simp; rfl) (by kernel_rfl) (by kernel_rfl) (by kernel_rfl) (by exact fun _ _ _ h => h) (Or.inl ⟨by rfl, ?y783⟩) hHeld ?_
  case y783 => intro _ h; have := Ex1.mk h; go_simp; try with_reducible rfl
  try simp only [Act.put, List.setIfInBounds_toArray, List.set_cons_zero, List.set_cons_succ]
  refine wpAnyH_take (i := 47) (v := ?z784) (by simp; rfl) (by kernel_rfl) (by kernel_rfl) (by kernel_rfl) (by exact fun _ _ _ h => h) (Or.inl ⟨by rfl, ?y784⟩) hHeld ?_
  case y784 => intro _ h; have := Ex1.mk h; go_simp; try with_reducible rfl
  try simp only [Act.put, List.setIfInBounds_toArray, List.set_cons_zero, List.set_cons_succ]
  refine wpAnyH_take (i := 48) (v := ?z785) (by simp; rfl) (by kernel_rfl) (by kernel_rfl) (by kernel_rfl) (by exact fun _ _ _ h => h) (Or.inl ⟨by rfl, ?y785⟩) hHeld ?_
  case y785 => intro _ h; have := Ex1.mk h; go_simp; try with_reducible rfl
  try simp only [Act.put, List.setIfInBounds_toArray, List.set_cons_zero, List.set_cons_succ]
  refine wpAnyH_take (i := 51) (v := ?z786) (by simp; rfl) (by kernel_rfl) (by kernel_rfl) (by kernel_rfl) (by exact fun _ _ _ h => h) (Or.inl ⟨by rfl, ?y786⟩) hHeld ?_
  case y786 => intro _ h; have := Ex1.mk h; go_simp; try with_reducible rfl
  try simp only [Act.put, List.setIfInBounds_toArray, List.set_cons_zero, List.set_cons_succ]
  refine wpAnyH_take (i := 52) (v := ?z787) (by simp; rfl) (by kernel_rfl) (by kernel_rfl) (by kernel_rfl) (by exact fun _ _ _ h => h) (Or.inl ⟨by rfl, ?y787⟩) hHeld ?_
  case y787 => intro _ h; have := Ex1.mk h; go_simp; try with_reducible rfl
  try simp only [Act.put, List.setIfInBounds_toArray, List.set_cons_zero, List.set_cons_succ]
  refine wpAnyH_ready (rs := [49]) (by kernel_rfl) (by simp) ?_
  refine AllReadyH.cons (by simp; rfl) (fun K hK => ?_) AllReadyH.nil
  go_simp
  (go_at_call 33; (with_reducible refine Calls.cPA (toPC (by omega)) ?_); intros)
  refine hK.out _ _ inferInstance ?_
  clear hHeld hK K; intro hHeld
  try simp only [Act.put, List.setIfInBounds_toArray, List.set_cons_zero, List.set_cons_succ]
  refine wpAnyH_ready (rs := [50]) (by kernel_rfl) (by simp) ?_
  refine AllReadyH.cons (by simp; rfl) (fun K hK => ?_) AllReadyH.nil
  go_simp
  (go_at_call 69; (with_reducible refine Calls.cA (lineParamC (by omega) hv) ?_); intros)
  refine hK.out _ _ inferInstance ?_
  clear hHeld hK K; intro hHeld
  try simp only [Act.put, List.setIfInBounds_toArray, List.set_cons_zero, List.set_cons_succ]
  refine wpAnyH_ready (rs := [53]) (by kernel_rfl) (by simp) ?_
  refine AllReadyH.cons (by simp; rfl) (fun K hK => ?_) AllReadyH.nil
  go_simp
  (go_at_call 70; (with_reducible refine Calls.cQ (refParamC (by omega) hv) ?_); intros)
  refine hK.out _ _ inferInstance ?_
  clear hHeld hK K; intro hHeld
  try simp only [Act.put, List.setIfInBounds_toArray, List.set_cons_zero, List.set_cons_succ]
  refine wpAnyH_ready (rs := [54]) (by kernel_rfl) (by simp) ?_
  refine AllReadyH.cons (by simp; rfl) (fun K hK => ?_) AllReadyH.nil
  go_simp
  (go_at_call 38; (with_reducible refine Calls.cA (toQC (by omega)) ?_); intros)
  refine hK.out _ _ inferInstance ?_
  clear hHeld hK K; intro hHeld
  try simp only [Act.put, List.setIfInBounds_toArray, List.set_cons_zero, List.set_cons_succ]
  refine wpAnyH_ready (rs := [55]) (by kernel_rfl) (by simp) ?_
  refine AllReadyH.cons (by simp; rfl) (fun K hK => ?_) AllReadyH.nil
  go_simp
  (go_at_call 57; (with_reducible refine Calls.cE (sameQC par_x) ?_); intros)
  refine hK.out _ _ inferInstance ?_
  clear hHeld hK K; intro hHeld
  try simp only [Act.put, List.setIfInBounds_toArray, List.set_cons_zero, List.set_cons_succ]
  refine wpAnyH_take (i := 56) (v := ?z788) (by simp; rfl) (by kernel_rfl) (by kernel_rfl) (by kernel_rfl) (by exact fun _ _ _ h => h) (Or.inl ⟨by rfl, ?y788⟩) hHeld ?_
  case y788 => intro _ h; have := Ex1.mk h; go_simp; try with_reducible rfl
  try simp only [Act.put, List.setIfInBounds_toArray, List.set_cons_zero, List.set_cons_succ]
  refine wpAnyH_take (i := 57) (v := ?z789) (by simp; rfl) (by kernel_rfl) (by kernel_rfl) (by kernel_rfl) (by exact fun _ _ _ h => h) (Or.inl ⟨by rfl, ?y789⟩) hHeld ?_
  case y789 => intro _ h; have := Ex1.mk h; go_simp; try with_reducible rfl
  try simp only [Act.put, List.setIfInBounds_toArray, List.set_cons_zero, List.set_cons_succ]
  refine wpAnyH_done (by kernel_rfl) ?_ _
  clear hHeld
  go_wp2_with fail
  go_ret
  exact E.fin rfl
end Go.Proofs.YtlameeijogdckaaGreat
