/-
  Texts of this claim, joined: Ln9.
-/
import Derived.Test.YtdlnoeegboapkaaGreatDoorCL
namespace Go.Proofs.YtdlnoeegboapkaaGreatDoor
open Go.RowKit
set_option linter.unusedSimpArgs false
set_option linter.unusedVariables false
set_option maxHeartbeats 40000000
set_option maxRecDepth 100000
set_option synthInstance.maxHeartbeats 1000000
set_option synthInstance.maxSize 100000
section
theorem over_val {x y : Rat} {g : Bool} (hg : g = decide (y.num < 0)) (hy : y ≠ 0) : mkRat (x.num * sgn g y.den) (x.den * y.num.natAbs) = x / y := by
  rw [Rat.div_def, ← inv_sgn hy, hg]
  conv => rhs; rw [← Rat.mkRat_self x]
  rw [Rat.mkRat_mul_mkRat]
theorem dd_eq (a b : Rat) : b * b + -a * -a = a * a + b * b := by grind
theorem dd_ne {a b c : Int} (h : LnV a b c) : Hid (((b : Int) : Rat) * ((b : Int) : Rat) + -((a : Int) : Rat) * -((a : Int) : Rat) ≠ 0) := by
  show _ ≠ _
  rw [dd_eq]; exact sq_ne h.1
theorem par_x {a b x y : Rat} : (b * x + -a * y) / (b * b + -a * -a) = (x * b + y * -a) / (b * b + -a * -a) := by
  rw [show b * x + -a * y = x * b + y * -a by grind]
theorem numOverC {w : World} {g1 g2 : Bool} {a1 aa1 a2 aa2 : Option Addr} {l1 c1 ll1 cc1 l2 c2 ll2 cc2 k1 k2 : Nat} {x y : Rat} [h1 : CQ w (.agg #[.bool g1, .slice a1 l1 c1, .slice aa1 ll1 cc1]) x k1] [h2 : CQ w (.agg #[.bool g2, .slice a2 l2 c2, .slice aa2 ll2 cc2]) y k2] (b : k1 ≤ 30000 ∧ k2 ≤ 30000) (hy : y ≠ 0) :
    Calls Tryz.prog 162 #[.agg #[.bool g1, .slice a1 l1 c1, .slice aa1 ll1 cc1], .agg #[.bool g2, .slice a2 l2 c2, .slice aa2 ll2 cc2]] w (CQRet w (x / y) (k1 + k2 + 8)) := by
  have i1 := h1.num
  have i2 := h2.num
  have hg := (zz_of i2).1
  have i3 : CN w (.slice a2 l2 c2) y.num.natAbs k2 := ⟨(zz_of i2).2⟩
  have HE := Lib.hid (over_val (x := x) hg hy)
  have hm : x.den * y.num.natAbs ≠ 0 := Nat.mul_ne_zero x.den_nz (fun h => hy (Rat.num_eq_zero.1 (Int.natAbs_eq_zero.1 h)))
  clear hg hy; go_enter Tryz.func162, Tryz.ntmps162
  go_upto_region 1 with fail
  go_cut [5] from 6 to 14 (fun tv wx => ∃ (b : Nat) (g : Bool) (a : Option Addr) (l c : Nat), tv = .pointer (some ⟨b, 0, none⟩) ∧ Bx wx b 43 [.bool g, .slice a l c] ∧ CZ wx (.agg #[.bool g, .slice a l c]) (x.num * sgn g2 y.den) (k1 + k2 + 2) ∧ NeN b (w.heap.size + 1 + 1) ∧ Kp1 (((w.alloc (.cells #[.bool g1, .slice a1 l1 c1, .slice aa1 ll1 cc1] 45)).alloc (.cells #[.bool g2, .slice a2 l2 c2, .slice aa2 ll2 cc2] 45)).alloc (.cells #[.bool false, .slice none 0 0, .slice none 0 0] 45)) wx)
  case first =>
    refine rgn [] [] fun hH => ?_; refine tk 0 hH ?_; refine tk 1 hH ?_; refine tk 2 hH ?_; refine tk 3 hH ?_; refine tk 4 hH ?_; refine tk 5 hH ?_; refine wpAnyT_ready (rs := [6, 9]) (by kernel_rfl) (by simp) ?_; refine AllT.cons (by simp; rfl) (fun K hK => ?_) (AllT.cons (by simp; rfl) (fun K hK => ?_) AllT.nil); go_simp; (with_reducible refine Calls.cN (numDenC) ?_); intros; refine hd hK ?_; clear hH hK K; intro hH; refine wpAnyT_ready (rs := [7, 9]) (by kernel_rfl) (by simp) ?_; refine AllT.cons (by simp; rfl) (fun K hK => ?_) (AllT.cons (by simp; rfl) (fun K hK => ?_) AllT.nil); go_simp; (with_reducible refine Calls.cSg (makeC) ?_); intros; refine hd hK ?_; clear hH hK K; intro hH; refine wpAnyT_ready (rs := [8, 9]) (by kernel_rfl) (by simp) ?_; refine AllT.cons (by simp; rfl) (fun K hK => ?_) (AllT.cons (by simp; rfl) (fun K hK => ?_) AllT.nil); go_simp; (with_reducible refine Calls.cZ (numMulC (by omega)) ?_); intros; refine hd hK ?_; clear hH hK K; intro hH; refine st 9 fun K hK => ?_; go_simp; refine hd hK ?_; clear hH hK K; intro hH; refine st 10 fun K hK => ?_; go_simp; refine hd hK ?_; clear hH hK K; intro hH; refine dn ?_; clear hH; go_wp2_with fail; go_meet; exact ⟨_, _, _, _, _, rfl, inferInstance, CZ.cast inferInstance rfl (by omega), inferInstance, ⟨(inferInstance : Kp (((w.alloc (.cells #[.bool g1, .slice a1 l1 c1, .slice aa1 ll1 cc1] 45)).alloc (.cells #[.bool g2, .slice a2 l2 c2, .slice aa2 ll2 cc2] 45)).alloc (.cells #[.bool false, .slice none 0 0, .slice none 0 0] 45)) _).out⟩⟩; go_simp; refine hd hK ?_; clear hH hK K; intro hH; refine st 8 fun K hK => ?_; go_simp; (with_reducible refine Calls.cZ (numMulC (by omega)) ?_); intros; refine hd hK ?_; clear hH hK K; intro hH; refine st 10 fun K hK => ?_; go_simp; refine hd hK ?_; clear hH hK K; intro hH; refine dn ?_; clear hH; go_wp2_with fail; go_meet; exact ⟨_, _, _, _, _, rfl, inferInstance, CZ.cast inferInstance rfl (by omega), inferInstance, ⟨(inferInstance : Kp (((w.alloc (.cells #[.bool g1, .slice a1 l1 c1, .slice aa1 ll1 cc1] 45)).alloc (.cells #[.bool g2, .slice a2 l2 c2, .slice aa2 ll2 cc2] 45)).alloc (.cells #[.bool false, .slice none 0 0, .slice none 0 0] 45)) _).out⟩⟩; go_simp; refine hd hK ?_; clear hH hK K; intro hH; refine st 7 fun K hK => ?_; go_simp; (with_reducible refine Calls.cSg (makeC) ?_); intros; refine hd hK ?_; clear hH hK K; intro hH; refine st 8 fun K hK => ?_; go_simp; (with_reducible refine Calls.cZ (numMulC (by omega)) ?_); intros; refine hd hK ?_; clear hH hK K; intro hH; refine st 10 fun K hK => ?_; go_simp; refine hd hK ?_; clear hH hK K; intro hH; refine dn ?_; clear hH; go_wp2_with fail; go_meet; exact ⟨_, _, _, _, _, rfl, inferInstance, CZ.cast inferInstance rfl (by omega), inferInstance, ⟨(inferInstance : Kp (((w.alloc (.cells #[.bool g1, .slice a1 l1 c1, .slice aa1 ll1 cc1] 45)).alloc (.cells #[.bool g2, .slice a2 l2 c2, .slice aa2 ll2 cc2] 45)).alloc (.cells #[.bool false, .slice none 0 0, .slice none 0 0] 45)) _).out⟩⟩; go_simp; refine hd hK ?_; clear hH hK K; intro hH; refine st 6 fun K hK => ?_; go_simp; (with_reducible refine Calls.cN (numDenC) ?_); intros; refine hd hK ?_; clear hH hK K; intro hH; refine st 7 fun K hK => ?_; go_simp; (with_reducible refine Calls.cSg (makeC) ?_); intros; refine hd hK ?_; clear hH hK K; intro hH; refine st 8 fun K hK => ?_; go_simp; (with_reducible refine Calls.cZ (numMulC (by omega)) ?_); intros; refine hd hK ?_; clear hH hK K; intro hH; refine st 10 fun K hK => ?_; go_simp; refine hd hK ?_; clear hH hK K; intro hH; refine dn ?_; clear hH; go_wp2_with fail; go_meet; exact ⟨_, _, _, _, _, rfl, inferInstance, CZ.cast inferInstance rfl (by omega), inferInstance, ⟨(inferInstance : Kp (((w.alloc (.cells #[.bool g1, .slice a1 l1 c1, .slice aa1 ll1 cc1] 45)).alloc (.cells #[.bool g2, .slice a2 l2 c2, .slice aa2 ll2 cc2] 45)).alloc (.cells #[.bool false, .slice none 0 0, .slice none 0 0] 45)) _).out⟩⟩
  case rest =>
    obtain ⟨b0, g, a, l, c, rfl, j1, j2, j4, j3⟩ := hcut; go_wp2_with fail; refine rgn [w.heap.size + 1 + 1] [] fun hH => ?_; refine tk 0 hH ?_; refine tk 1 hH ?_; refine tk 3 hH ?_; refine tk 4 hH ?_; refine tk 5 hH ?_; refine st 2 fun K hK => ?_; go_simp; (with_reducible refine Calls.cN (numDenC) ?_); intros; refine hd hK ?_; clear hH hK K; intro hH; refine st 6 fun K hK => ?_; go_simp; (with_reducible refine Calls.cN (numProductC (by omega)) ?_); intros; refine hd hK ?_; clear hH hK K; intro hH; refine st 7 fun K hK => ?_; go_simp; (with_reducible refine Calls.cQ (numFracC (by omega) hm) ?_); intros; refine hd hK ?_; clear hH hK K; intro hH; refine st 8 fun K hK => ?_; go_simp; refine hd hK ?_; clear hH hK K; intro hH; refine dn ?_; clear hH; go_wp2; refine ret_bx rfl Tryz.underlying45 rfl (by kernel_rfl) rfl rfl rfl ?_; exact CQRet.fin HE.out (by omega)
theorem refqC {w : World} {g1 : Bool} {a1 : Option Addr} {l1 : Nat} {c1 : Nat} {a : Int} {k1 : Nat} [h1 : CZ w (.agg #[.bool g1, .slice a1 l1 c1]) a k1] :
    Calls Tryz.prog 243 #[.agg #[.bool g1, .slice a1 l1 c1]] w (CQRet w (((a : Int) : Rat)) (k1)) := by
  go_enter Tryz.func243, Tryz.ntmps243; go_wp2_with fail
  skip
  go_wp2; refine ret_bx rfl Tryz.underlying45 rfl (by kernel_rfl) rfl rfl rfl ?_; exact CQRet.fin rfl (by omega)
theorem refValueC {w : World} {g1x g1y g1z g2x g2y : Bool} {a1x a1y a1z a2x aa2x a2y aa2y : Option Addr} {l1x c1x l1y c1y l1z c1z l2x c2x ll2x cc2x l2y c2y ll2y cc2y k1x k1y k1z k2x k2y : Nat} {la lb lc : Int} {x y : Rat} [h1x : CZ w (.agg #[.bool g1x, .slice a1x l1x c1x]) la k1x] [h1y : CZ w (.agg #[.bool g1y, .slice a1y l1y c1y]) lb k1y] [h1z : CZ w (.agg #[.bool g1z, .slice a1z l1z c1z]) lc k1z] [h2x : CQ w (.agg #[.bool g2x, .slice a2x l2x c2x, .slice aa2x ll2x cc2x]) x k2x] [h2y : CQ w (.agg #[.bool g2y, .slice a2y l2y c2y, .slice aa2y ll2y cc2y]) y k2y] (b : k1x ≤ 9000 ∧ k1y ≤ 9000 ∧ k1z ≤ 9000 ∧ k2x ≤ 9000 ∧ k2y ≤ 9000) :
    Calls Tryz.prog 279 #[.agg #[.bool g1x, .slice a1x l1x c1x, .bool g1y, .slice a1y l1y c1y, .bool g1z, .slice a1z l1z c1z], .agg #[.bool g2x, .slice a2x l2x c2x, .slice aa2x ll2x cc2x, .bool g2y, .slice a2y l2y c2y, .slice aa2y ll2y cc2y]] w (CQRet w (((la : Int) : Rat) * x + ((lb : Int) : Rat) * y + ((lc : Int) : Rat)) (k1x + k1y + k1z + k2x + k2y + 30)) := by
  go_enter Tryz.func279, Tryz.ntmps279; go_wp2_with fail; refine rgn [w.heap.size + 1 + 1] [] fun hH => ?_; refine tk 0 hH ?_; refine tk 1 hH ?_; refine tk 3 hH ?_; refine tk 4 hH ?_; refine tk 6 hH ?_; refine tk 7 hH ?_; refine tk 9 hH ?_; refine tk 10 hH ?_; refine tk 13 hH ?_; refine tk 14 hH ?_; refine st 2 fun K hK => ?_; go_simp; (with_reducible refine Calls.cQ (refqC) ?_); intros; refine hd hK ?_; clear hH hK K; intro hH; refine st 5 fun K hK => ?_; go_simp; (with_reducible refine Calls.cQ (numTimesC (by omega)) ?_); intros; refine hd hK ?_; clear hH hK K; intro hH; refine st 8 fun K hK => ?_; go_simp; (with_reducible refine Calls.cQ (refqC) ?_); intros; refine hd hK ?_; clear hH hK K; intro hH; refine st 11 fun K hK => ?_; go_simp; (with_reducible refine Calls.cQ (numTimesC (by omega)) ?_); intros; refine hd hK ?_; clear hH hK K; intro hH; refine st 12 fun K hK => ?_; go_simp; (with_reducible refine Calls.cQ (numPlusC (by omega)) ?_); intros; refine hd hK ?_; clear hH hK K; intro hH; refine st 15 fun K hK => ?_; go_simp; (with_reducible refine Calls.cQ (refqC) ?_); intros; refine hd hK ?_; clear hH hK K; intro hH; refine st 16 fun K hK => ?_; go_simp; (with_reducible refine Calls.cQ (numPlusC (by omega)) ?_); intros; refine hd hK ?_; clear hH hK K; intro hH; refine st 17 fun K hK => ?_; go_simp; refine hd hK ?_; clear hH hK K; intro hH; refine dn ?_; clear hH; go_wp2; refine ret_bx rfl Tryz.underlying45 rfl (by kernel_rfl) rfl rfl rfl ?_; exact CQRet.fin rfl (by omega)
theorem refSideC {w : World} {g1x g1y g1z g2x g2y : Bool} {a1x a1y a1z a2x aa2x a2y aa2y : Option Addr} {l1x c1x l1y c1y l1z c1z l2x c2x ll2x cc2x l2y c2y ll2y cc2y k1x k1y k1z k2x k2y : Nat} {la lb lc : Int} {x y : Rat} [h1x : CZ w (.agg #[.bool g1x, .slice a1x l1x c1x]) la k1x] [h1y : CZ w (.agg #[.bool g1y, .slice a1y l1y c1y]) lb k1y] [h1z : CZ w (.agg #[.bool g1z, .slice a1z l1z c1z]) lc k1z] [h2x : CQ w (.agg #[.bool g2x, .slice a2x l2x c2x, .slice aa2x ll2x cc2x]) x k2x] [h2y : CQ w (.agg #[.bool g2y, .slice a2y l2y c2y, .slice aa2y ll2y cc2y]) y k2y] (b : k1x ≤ 9000 ∧ k1y ≤ 9000 ∧ k1z ≤ 9000 ∧ k2x ≤ 9000 ∧ k2y ≤ 9000) :
    Calls Tryz.prog 244 #[.agg #[.bool g1x, .slice a1x l1x c1x, .bool g1y, .slice a1y l1y c1y, .bool g1z, .slice a1z l1z c1z], .agg #[.bool g2x, .slice a2x l2x c2x, .slice aa2x ll2x cc2x, .bool g2y, .slice a2y l2y c2y, .slice aa2y ll2y cc2y]] w (fun e w' => e = .returned (.int .i64 (isgn (((la : Int) : Rat) * x + ((lb : Int) : Rat) * y + ((lc : Int) : Rat)).num)) ∧ Below w.heap.size w w') := by
  go_enter Tryz.func244, Tryz.ntmps244
  go_wp2_with (first
    | (go_at_call 279; (with_reducible refine Calls.cQ (refValueC (by omega)) ?_); intros)
    | (go_at_call 54; (with_reducible refine Calls.cE (numSC) ?_); intros))
  go_ret; exact E.fin rfl
theorem refDirC {w : World} {g1x g1y g1z : Bool} {a1x a1y a1z : Option Addr} {l1x c1x l1y c1y l1z c1z k1x k1y k1z : Nat} {la lb lc : Int} [h1x : CZ w (.agg #[.bool g1x, .slice a1x l1x c1x]) la k1x] [h1y : CZ w (.agg #[.bool g1y, .slice a1y l1y c1y]) lb k1y] [h1z : CZ w (.agg #[.bool g1z, .slice a1z l1z c1z]) lc k1z] (b : k1x ≤ 9000 ∧ k1y ≤ 9000 ∧ k1z ≤ 9000) :
    Calls Tryz.prog 219 #[.agg #[.bool g1x, .slice a1x l1x c1x, .bool g1y, .slice a1y l1y c1y, .bool g1z, .slice a1z l1z c1z]] w (CPQRet w (((lb : Int) : Rat)) (-((la : Int) : Rat)) (max k1x k1y)) := by
  go_enter Tryz.func219, Tryz.ntmps219; go_wp2_with fail; refine rgn [w.heap.size + 1] [] fun hH => ?_; refine tk 0 hH ?_; refine tk 1 hH ?_; refine tk 3 hH ?_; refine tk 4 hH ?_; refine st 2 fun K hK => ?_; go_simp; (with_reducible refine Calls.cQ (refqC) ?_); intros; refine hd hK ?_; clear hH hK K; intro hH; refine st 5 fun K hK => ?_; go_simp; (with_reducible refine Calls.cQ (refqC) ?_); intros; refine hd hK ?_; clear hH hK K; intro hH; refine st 6 fun K hK => ?_; go_simp; (with_reducible refine Calls.cQ (numOppC) ?_); intros; refine hd hK ?_; clear hH hK K; intro hH; refine tk 7 hH ?_; refine st 8 fun K hK => ?_; go_simp; refine hd hK ?_; clear hH hK K; intro hH; refine dn ?_; clear hH; go_wp2; refine ret_bx rfl Tryz.underlying47 rfl (by kernel_rfl) rfl rfl rfl ?_; exact CPQRet.fin rfl (by omega) rfl (by omega)
theorem refBaseC {w : World} {g1x g1y g1z : Bool} {a1x a1y a1z : Option Addr} {l1x c1x l1y c1y l1z c1z k1x k1y k1z : Nat} {la lb lc : Int} [h1x : CZ w (.agg #[.bool g1x, .slice a1x l1x c1x]) la k1x] [h1y : CZ w (.agg #[.bool g1y, .slice a1y l1y c1y]) lb k1y] [h1z : CZ w (.agg #[.bool g1z, .slice a1z l1z c1z]) lc k1z] (b : k1x ≤ 5000 ∧ k1y ≤ 5000 ∧ k1z ≤ 5000) (hv : Hid (LnV la lb lc)) :
    Calls Tryz.prog 280 #[.agg #[.bool g1x, .slice a1x l1x c1x, .bool g1y, .slice a1y l1y c1y, .bool g1z, .slice a1z l1z c1z]] w (CPQRet w (-(((lc : Int) : Rat) / (((lb : Int) : Rat) * ((lb : Int) : Rat) + -((la : Int) : Rat) * -((la : Int) : Rat))) * ((la : Int) : Rat)) (-(((lc : Int) : Rat) / (((lb : Int) : Rat) * ((lb : Int) : Rat) + -((la : Int) : Rat) * -((la : Int) : Rat))) * ((lb : Int) : Rat)) (5 * (max k1x k1y) + k1z + 40)) := by
  have HZ := dd_ne hv.out
  go_enter Tryz.func280, Tryz.ntmps280
  go_upto_region 1 with fail
  go_cut [3] from 5 to 6 (fun t wx => ∃ (b3 : Nat) (g1 : Bool) (a1 : Option Addr) (l1 c1 : Nat) (aa1 : Option Addr) (ll1 cc1 : Nat) (g2 : Bool) (a2 : Option Addr) (l2 c2 : Nat) (aa2 : Option Addr) (ll2 cc2 : Nat), t = .pointer (some ⟨b3, 0, none⟩) ∧ Bx wx b3 47 [.bool g1, .slice a1 l1 c1, .slice aa1 ll1 cc1, .bool g2, .slice a2 l2 c2, .slice aa2 ll2 cc2] ∧ CQ wx (.agg #[.bool g1, .slice a1 l1 c1, .slice aa1 ll1 cc1]) (((lb : Int) : Rat)) (max k1x k1y) ∧ CQ wx (.agg #[.bool g2, .slice a2 l2 c2, .slice aa2 ll2 cc2]) (-((la : Int) : Rat)) (max k1x k1y) ∧ Bx wx w.heap.size 163 [.bool g1x, .slice a1x l1x c1x, .bool g1y, .slice a1y l1y c1y, .bool g1z, .slice a1z l1z c1z] ∧ Bx wx (w.heap.size + 1) 47 [.bool false, .slice none 0 0, .slice none 0 0, .bool false, .slice none 0 0, .slice none 0 0] ∧ CZ wx (.agg #[.bool g1x, .slice a1x l1x c1x]) la k1x ∧ CZ wx (.agg #[.bool g1y, .slice a1y l1y c1y]) lb k1y ∧ CZ wx (.agg #[.bool g1z, .slice a1z l1z c1z]) lc k1z ∧ Kp w wx)
  case first =>
    go_wp2_with (first | (go_at_call 219; (with_reducible refine Calls.cPQ (refDirC (by omega)) ?_); intros))
    go_meet; exact ⟨_, _, _, _, _, _, _, _, _, _, _, _, _, _, _, rfl, inferInstance, CQ.cast inferInstance rfl (by omega), CQ.cast inferInstance rfl (by omega), inferInstance, inferInstance, inferInstance, inferInstance, inferInstance, inferInstance⟩
  case rest =>
   obtain ⟨b3, g1, a1, l1, c1, aa1, ll1, cc1, g2, a2, l2, c2, aa2, ll2, cc2, rfl, i1, i2, i3, i4, i5, i6, i7, i8, i9⟩ := hcut
   go_upto_region 2 with fail
   go_cut [4] from 7 to 14 (fun t wx => ∃ (b4 : Nat) (g : Bool) (a : Option Addr) (l c : Nat) (aa : Option Addr) (ll cc : Nat), t = .pointer (some ⟨b4, 0, none⟩) ∧ Bx wx b4 45 [.bool g, .slice a l c, .slice aa ll cc] ∧ CQ wx (.agg #[.bool g, .slice a l c, .slice aa ll cc]) (-(((lc : Int) : Rat) / (((lb : Int) : Rat) * ((lb : Int) : Rat) + -((la : Int) : Rat) * -((la : Int) : Rat)))) (4 * (max k1x k1y) + k1z + 24) ∧ Kp wc wx)
   case first =>
    refine rgn [] [] fun hH => ?_; refine tk 0 hH ?_; refine tk 1 hH ?_; refine tk 3 hH ?_; refine tk 4 hH ?_
    refine wpAnyT_inv [(2, 9), (5, 12), (6, 13), (7, 14), (8, 4)] (fun i => match i with | 2 => [] | 5 => [2] | 6 => [2, 5] | 7 => [6] | 8 => [] | _ => []) [phiQ (((lc : Int) : Rat)) k1z, phiQ (((lb : Int) : Rat) * ((lb : Int) : Rat) + -((la : Int) : Rat) * -((la : Int) : Rat)) (4 * (max k1x k1y) + 12), phiQ (((lc : Int) : Rat) / (((lb : Int) : Rat) * ((lb : Int) : Rat) + -((la : Int) : Rat) * -((la : Int) : Rat))) (4 * (max k1x k1y) + k1z + 24), phiQ (-(((lc : Int) : Rat) / (((lb : Int) : Rat) * ((lb : Int) : Rat) + -((la : Int) : Rat) * -((la : Int) : Rat)))) (4 * (max k1x k1y) + k1z + 24), phiB wc 45 [.bool false, .slice none 0 0, .slice none 0 0]] [8] 1 (by rfl) (by decide +kernel) (by decide) (by decide) (by kernel_rfl) ?_ (fun _ _ => Ex.below) hH ?_ ?_
    · intro i hi v W h; simp only [List.mem_cons, List.not_mem_nil, or_false] at hi
      rcases hi with rfl
      all_goals exact phiB.old h
    · intro i hi f W hSw hbw hp; have kw := Kp1.mk hbw
      have hSx := Ex1.mk hSw
      clear hH; simp only [List.map_cons, List.map_nil, List.mem_cons, List.not_mem_nil, or_false] at hi
      rcases hi with rfl | rfl | rfl | rfl | rfl
      · refine ⟨_, by simp; rfl, fun K' hK => ?_⟩
        clear hp; simp only [putAll, Act.put, List.setIfInBounds_toArray, List.set_cons_zero, List.set_cons_succ] at hK ⊢
        generalize f 2 = v2 at *
        generalize f 5 = v5 at *
        generalize f 6 = v6 at *
        generalize f 7 = v7 at *
        generalize f 8 = v8 at *
        go_simp; (with_reducible refine Calls.cQ (refqC) ?_); intros
        refine hK.out _ _ _ rfl (inferInstance : Kp W _).out ?_ ?_
        · exact phiQ.fin rfl (by omega)
        · exact fun h => absurd h (by decide)
      · have h2 : phiQ (((lc : Int) : Rat)) k1z (f 2) W := hp 2 (by decide)
        refine ⟨_, by simp; rfl, fun K' hK => ?_⟩
        clear hp; simp only [putAll, Act.put, List.setIfInBounds_toArray, List.set_cons_zero, List.set_cons_succ] at hK ⊢
        generalize f 2 = v2 at *
        generalize f 5 = v5 at *
        generalize f 6 = v6 at *
        generalize f 7 = v7 at *
        generalize f 8 = v8 at *
        obtain ⟨g2, a2, l2, c2, aa2, ll2, cc2, rfl, i2⟩ := h2; go_simp; (with_reducible refine Calls.cQ (refDotC (by omega)) ?_); intros
        refine hK.out _ _ _ rfl (inferInstance : Kp W _).out ?_ ?_
        · exact phiQ.fin rfl (by omega)
        · exact fun h => absurd h (by decide)
      · have h2 : phiQ (((lc : Int) : Rat)) k1z (f 2) W := hp 2 (by decide)
        have h5 : phiQ (((lb : Int) : Rat) * ((lb : Int) : Rat) + -((la : Int) : Rat) * -((la : Int) : Rat)) (4 * (max k1x k1y) + 12) (f 5) W := hp 5 (by decide)
        refine ⟨_, by simp; rfl, fun K' hK => ?_⟩
        clear hp; simp only [putAll, Act.put, List.setIfInBounds_toArray, List.set_cons_zero, List.set_cons_succ] at hK ⊢
        generalize f 2 = v2 at *
        generalize f 5 = v5 at *
        generalize f 6 = v6 at *
        generalize f 7 = v7 at *
        generalize f 8 = v8 at *
        obtain ⟨g2, a2, l2, c2, aa2, ll2, cc2, rfl, i2⟩ := h2; obtain ⟨g5, a5, l5, c5, aa5, ll5, cc5, rfl, i5⟩ := h5; go_simp; (with_reducible refine Calls.cQ (numOverC (by omega) HZ.out) ?_); intros
        refine hK.out _ _ _ rfl (inferInstance : Kp W _).out ?_ ?_
        · exact phiQ.fin rfl (by omega)
        · exact fun h => absurd h (by decide)
      · have h6 : phiQ (((lc : Int) : Rat) / (((lb : Int) : Rat) * ((lb : Int) : Rat) + -((la : Int) : Rat) * -((la : Int) : Rat))) (4 * (max k1x k1y) + k1z + 24) (f 6) W := hp 6 (by decide)
        refine ⟨_, by simp; rfl, fun K' hK => ?_⟩
        clear hp; simp only [putAll, Act.put, List.setIfInBounds_toArray, List.set_cons_zero, List.set_cons_succ] at hK ⊢
        generalize f 2 = v2 at *
        generalize f 5 = v5 at *
        generalize f 6 = v6 at *
        generalize f 7 = v7 at *
        generalize f 8 = v8 at *
        obtain ⟨g6, a6, l6, c6, aa6, ll6, cc6, rfl, i6⟩ := h6; go_simp; (with_reducible refine Calls.cQ (numOppC) ?_); intros
        refine hK.out _ _ _ rfl (inferInstance : Kp W _).out ?_ ?_
        · exact phiQ.fin rfl (by omega)
        · exact fun h => absurd h (by decide)
      · refine ⟨_, by simp; rfl, fun K' hK => ?_⟩
        clear hp; simp only [putAll, Act.put, List.setIfInBounds_toArray, List.set_cons_zero, List.set_cons_succ] at hK ⊢
        generalize f 2 = v2 at *
        generalize f 5 = v5 at *
        generalize f 6 = v6 at *
        generalize f 7 = v7 at *
        generalize f 8 = v8 at *
        go_simp
        refine hK.out _ _ _ rfl (inferInstance : Kp W _).out ?_ ?_
        · exact phiB.fin
        · exact fun _ => ⟨_, rfl, Nat.le_refl _⟩
    · intro f W hSw hbw hf hne; have kw := Kp1.mk hbw
      have hSx := Ex1.mk hSw
      clear hH
      have h2 : phiQ (((lc : Int) : Rat)) k1z (f 2) W := hf 2 (by decide)
      have h5 : phiQ (((lb : Int) : Rat) * ((lb : Int) : Rat) + -((la : Int) : Rat) * -((la : Int) : Rat)) (4 * (max k1x k1y) + 12) (f 5) W := hf 5 (by decide)
      have h6 : phiQ (((lc : Int) : Rat) / (((lb : Int) : Rat) * ((lb : Int) : Rat) + -((la : Int) : Rat) * -((la : Int) : Rat))) (4 * (max k1x k1y) + k1z + 24) (f 6) W := hf 6 (by decide)
      have h7 : phiQ (-(((lc : Int) : Rat) / (((lb : Int) : Rat) * ((lb : Int) : Rat) + -((la : Int) : Rat) * -((la : Int) : Rat)))) (4 * (max k1x k1y) + k1z + 24) (f 7) W := hf 7 (by decide)
      have h8 : phiB wc 45 [.bool false, .slice none 0 0, .slice none 0 0] (f 8) W := hf 8 (by decide)
      clear hf hne; simp only [putAll, lset, List.map_cons, List.map_nil, Act.put, List.setIfInBounds_toArray, List.set_cons_zero, List.set_cons_succ]
      generalize f 2 = v2 at *
      generalize f 5 = v5 at *
      generalize f 6 = v6 at *
      generalize f 7 = v7 at *
      generalize f 8 = v8 at *
      obtain ⟨g2, a2, l2, c2, aa2, ll2, cc2, rfl, i2⟩ := h2; obtain ⟨g5, a5, l5, c5, aa5, ll5, cc5, rfl, i5⟩ := h5; obtain ⟨g6, a6, l6, c6, aa6, ll6, cc6, rfl, i6⟩ := h6; obtain ⟨g7, a7, l7, c7, aa7, ll7, cc7, rfl, i7⟩ := h7; obtain ⟨b8, rfl, i8, j8, k8⟩ := h8
      have hH := hSw
      refine st 9 fun K hK => ?_; go_simp; refine hd hK ?_; clear hH hK K; intro hH; refine dn ?_; clear hH; go_wp2_with fail; go_meet; exact ⟨_, _, _, _, _, _, _, _, rfl, inferInstance, inferInstance, inferInstance⟩
   case rest =>
    obtain ⟨b4, g, a, l, c, aa, ll, cc, rfl, m1, m2, ⟨m3⟩⟩ := hcut; have m5 := Kp1.mk m3
    have m6 : Kp w wc := inferInstance
    go_wp2_with fail; refine rgn [] [11] fun hH => ?_; refine tk 0 hH ?_; refine tk 1 hH ?_; refine tk 2 hH ?_; refine tk 5 hH ?_; refine tk 6 hH ?_; refine tk 7 hH ?_; refine st 3 fun K hK => ?_; go_simp; (with_reducible refine Calls.cQ (refqC) ?_); intros; refine hd hK ?_; clear hH hK K; intro hH; refine st 4 fun K hK => ?_; go_simp; (with_reducible refine Calls.cQ (numTimesC (by omega)) ?_); intros; refine hd hK ?_; clear hH hK K; intro hH; refine st 8 fun K hK => ?_; go_simp; (with_reducible refine Calls.cQ (refqC) ?_); intros; refine hd hK ?_; clear hH hK K; intro hH; refine st 9 fun K hK => ?_; go_simp; (with_reducible refine Calls.cQ (numTimesC (by omega)) ?_); intros; refine hd hK ?_; clear hH hK K; intro hH; refine tk 10 hH ?_; refine st 11 fun K hK => ?_; go_simp; refine hdT hK ?_; clear hK K; refine dn ?_; clear hH; go_wp2_with fail; refine ret_bx rfl Tryz.underlying47 rfl (by kernel_rfl) rfl rfl rfl ?_; exact CPQRet.fin rfl (by omega) rfl (by omega)
theorem refPAddB {w : World} {g1x g1y g2 g3x g3y : Bool} {a1x aa1x a1y aa1y a2 aa2 a3x aa3x a3y aa3y : Option Addr} {l1x c1x ll1x cc1x l1y c1y ll1y cc1y l2 c2 ll2 cc2 l3x c3x ll3x cc3x l3y c3y ll3y cc3y k1x k1y k2 k3x k3y : Nat} {x1 y1 z x2 y2 : Rat} [h1x : CQ w (.agg #[.bool g1x, .slice a1x l1x c1x, .slice aa1x ll1x cc1x]) x1 k1x] [h1y : CQ w (.agg #[.bool g1y, .slice a1y l1y c1y, .slice aa1y ll1y cc1y]) y1 k1y] [h2 : CQ w (.agg #[.bool g2, .slice a2 l2 c2, .slice aa2 ll2 cc2]) z k2] [h3x : CQ w (.agg #[.bool g3x, .slice a3x l3x c3x, .slice aa3x ll3x cc3x]) x2 k3x] [h3y : CQ w (.agg #[.bool g3y, .slice a3y l3y c3y, .slice aa3y ll3y cc3y]) y2 k3y] (b : k1x ≤ 40000 ∧ k1y ≤ 40000 ∧ k2 ≤ 10000 ∧ k3x ≤ 10000 ∧ k3y ≤ 10000) :
    Calls Tryz.prog 82 #[.agg #[.bool g1x, .slice a1x l1x c1x, .slice aa1x ll1x cc1x, .bool g1y, .slice a1y l1y c1y, .slice aa1y ll1y cc1y], .agg #[.bool g2, .slice a2 l2 c2, .slice aa2 ll2 cc2], .agg #[.bool g3x, .slice a3x l3x c3x, .slice aa3x ll3x cc3x, .bool g3y, .slice a3y l3y c3y, .slice aa3y ll3y cc3y]] w (CPQRet w (x1 + z * x2) (y1 + z * y2) (max k1x k1y + k2 + max k3x k3y + 8)) := by
  go_enter Tryz.func82, Tryz.ntmps82; go_wp2_with fail; refine rgn [w.heap.size + 1 + 1 + 1] [] fun hH => ?_; refine tk 0 hH ?_; refine tk 1 hH ?_; refine tk 2 hH ?_; refine tk 3 hH ?_; refine tk 4 hH ?_; refine tk 7 hH ?_; refine tk 8 hH ?_; refine tk 9 hH ?_; refine tk 10 hH ?_; refine tk 11 hH ?_; refine st 5 fun K hK => ?_; go_simp; (with_reducible refine Calls.cQ (numTimesC (by omega)) ?_); intros; refine hd hK ?_; clear hH hK K; intro hH; refine st 6 fun K hK => ?_; go_simp; (with_reducible refine Calls.cQ (numPlusC (by omega)) ?_); intros; refine hd hK ?_; clear hH hK K; intro hH; refine st 12 fun K hK => ?_; go_simp; (with_reducible refine Calls.cQ (numTimesC (by omega)) ?_); intros; refine hd hK ?_; clear hH hK K; intro hH; refine st 13 fun K hK => ?_; go_simp; (with_reducible refine Calls.cQ (numPlusC (by omega)) ?_); intros; refine hd hK ?_; clear hH hK K; intro hH; refine tk 14 hH ?_; refine st 15 fun K hK => ?_; go_simp; refine hd hK ?_; clear hH hK K; intro hH; refine dn ?_; clear hH; go_wp2; refine ret_bx rfl Tryz.underlying47 rfl (by kernel_rfl) rfl rfl rfl ?_; exact CPQRet.fin rfl (by omega) rfl (by omega)
theorem refAtC {w : World} {g1x g1y g1z g2 : Bool} {a1x a1y a1z a2 aa2 : Option Addr} {l1x c1x l1y c1y l1z c1z l2 c2 ll2 cc2 k1x k1y k1z k2 : Nat} {la lb lc : Int} {t : Rat} [h1x : CZ w (.agg #[.bool g1x, .slice a1x l1x c1x]) la k1x] [h1y : CZ w (.agg #[.bool g1y, .slice a1y l1y c1y]) lb k1y] [h1z : CZ w (.agg #[.bool g1z, .slice a1z l1z c1z]) lc k1z] [h2 : CQ w (.agg #[.bool g2, .slice a2 l2 c2, .slice aa2 ll2 cc2]) t k2] (b : k1x ≤ 5000 ∧ k1y ≤ 5000 ∧ k1z ≤ 5000 ∧ k2 ≤ 5000) (hv : Hid (LnV la lb lc)) :
    Calls Tryz.prog 246 #[.agg #[.bool g1x, .slice a1x l1x c1x, .bool g1y, .slice a1y l1y c1y, .bool g1z, .slice a1z l1z c1z], .agg #[.bool g2, .slice a2 l2 c2, .slice aa2 ll2 cc2]] w (CPQRet w (-(((lc : Int) : Rat) / (((lb : Int) : Rat) * ((lb : Int) : Rat) + -((la : Int) : Rat) * -((la : Int) : Rat))) * ((la : Int) : Rat) + t * ((lb : Int) : Rat)) (-(((lc : Int) : Rat) / (((lb : Int) : Rat) * ((lb : Int) : Rat) + -((la : Int) : Rat) * -((la : Int) : Rat))) * ((lb : Int) : Rat) + t * -((la : Int) : Rat)) (6 * (max k1x k1y) + k1z + k2 + 80)) := by
  go_enter Tryz.func246, Tryz.ntmps246; go_wp2_with fail; refine rgn [w.heap.size + 1 + 1] [] fun hH => ?_; refine tk 0 hH ?_; refine tk 2 hH ?_; refine tk 3 hH ?_; refine st 1 fun K hK => ?_; go_simp; (with_reducible refine Calls.cPQ (refBaseC (by omega) hv) ?_); intros; refine hd hK ?_; clear hH hK K; intro hH; refine st 4 fun K hK => ?_; go_simp; (with_reducible refine Calls.cPQ (refDirC (by omega)) ?_); intros; refine hd hK ?_; clear hH hK K; intro hH; refine st 5 fun K hK => ?_; go_simp; (with_reducible refine Calls.cPQ (refPAddB (by omega)) ?_); intros; refine hd hK ?_; clear hH hK K; intro hH; refine st 6 fun K hK => ?_; go_simp; refine hd hK ?_; clear hH hK K; intro hH; refine dn ?_; clear hH; go_wp2_with fail; refine ret_bx rfl Tryz.underlying47 rfl (by kernel_rfl) rfl rfl rfl ?_; exact CPQRet.fin rfl (by omega) rfl (by omega)
theorem refParamC {w : World} {g1x g1y g1z g2x g2y : Bool} {a1x a1y a1z a2x aa2x a2y aa2y : Option Addr} {l1x c1x l1y c1y l1z c1z l2x c2x ll2x cc2x l2y c2y ll2y cc2y k1x k1y k1z k2x k2y : Nat} {la lb lc : Int} {x y : Rat} [h1x : CZ w (.agg #[.bool g1x, .slice a1x l1x c1x]) la k1x] [h1y : CZ w (.agg #[.bool g1y, .slice a1y l1y c1y]) lb k1y] [h1z : CZ w (.agg #[.bool g1z, .slice a1z l1z c1z]) lc k1z] [h2x : CQ w (.agg #[.bool g2x, .slice a2x l2x c2x, .slice aa2x ll2x cc2x]) x k2x] [h2y : CQ w (.agg #[.bool g2y, .slice a2y l2y c2y, .slice aa2y ll2y cc2y]) y k2y] (b : k1x ≤ 5000 ∧ k1y ≤ 5000 ∧ k1z ≤ 5000 ∧ k2x ≤ 5000 ∧ k2y ≤ 5000) (hv : Hid (LnV la lb lc)) :
    Calls Tryz.prog 161 #[.agg #[.bool g1x, .slice a1x l1x c1x, .bool g1y, .slice a1y l1y c1y, .bool g1z, .slice a1z l1z c1z], .agg #[.bool g2x, .slice a2x l2x c2x, .slice aa2x ll2x cc2x, .bool g2y, .slice a2y l2y c2y, .slice aa2y ll2y cc2y]] w (CQRet w ((x * ((lb : Int) : Rat) + y * -((la : Int) : Rat)) / (((lb : Int) : Rat) * ((lb : Int) : Rat) + -((la : Int) : Rat) * -((la : Int) : Rat))) (6 * (max k1x k1y) + k2x + k2y + 60)) := by
  have HZ := dd_ne hv.out
  go_enter Tryz.func161, Tryz.ntmps161
  go_wp2_with (first
    | (go_at_call 219; (with_reducible refine Calls.cPQ (refDirC (by omega)) ?_); intros))
  refine rgn [w.heap.size + 1 + 1] [] fun hH => ?_; refine tk 0 hH ?_; refine tk 1 hH ?_; refine tk 3 hH ?_; refine tk 4 hH ?_; refine st 2 fun K hK => ?_; go_simp; (with_reducible refine Calls.cQ (refDotC (by omega)) ?_); intros; refine hd hK ?_; clear hH hK K; intro hH; refine st 5 fun K hK => ?_; go_simp; (with_reducible refine Calls.cQ (refDotC (by omega)) ?_); intros; refine hd hK ?_; clear hH hK K; intro hH; refine st 6 fun K hK => ?_; go_simp; (with_reducible refine Calls.cQ (numOverC (by omega) HZ.out) ?_); intros; refine hd hK ?_; clear hH hK K; intro hH; refine st 7 fun K hK => ?_; go_simp; refine hd hK ?_; clear hH hK K; intro hH; refine dn ?_; clear hH; go_wp2_with fail; refine ret_bx rfl Tryz.underlying45 rfl (by kernel_rfl) rfl rfl rfl ?_; exact CQRet.fin rfl (by omega)
end
end Go.Proofs.YtdlnoeegboapkaaGreatDoor
