/-
  Texts of this claim, joined: Ln10, Fm, St.
-/
import Derived.Test.YtdlnoeegboapkaaGreatDoorCS
import Derived.Test.YtdlnoeegboapkaaGreatDoorCH
import Derived.Test.YtdlnoeegboapkaaGreatDoorCT
import Derived.Test.YtdlnoeegboapkaaGreatDoorCM
/- The common point of two lines: packages geo and line. printed by a small program (mkln10.py). -/
namespace Go.Proofs.YtdlnoeegboapkaaGreatDoor
open Go.RowKit
set_option maxRecDepth 100000
set_option maxHeartbeats 40000000
set_option synthInstance.maxSize 100000
set_option synthInstance.maxHeartbeats 1000000
set_option linter.unusedVariables false
set_option linter.unusedSimpArgs false

theorem gMeetOk {w : World} {n1x d1x n1y d1y n1z d1z n2x d2x n2y d2y n2z d2z : Int} {p1x p1y p1z p2x p2y p2z : Option Addr} {la lb lc ma mb mc : Rat} {k1x k1y k1z k2x k2y k2z : Nat} [h1x : CF w (.agg #[.int .i64 n1x, .int .i64 d1x, .pointer p1x]) la k1x] [h1y : CF w (.agg #[.int .i64 n1y, .int .i64 d1y, .pointer p1y]) lb k1y] [h1z : CF w (.agg #[.int .i64 n1z, .int .i64 d1z, .pointer p1z]) lc k1z] [h2x : CF w (.agg #[.int .i64 n2x, .int .i64 d2x, .pointer p2x]) ma k2x] [h2y : CF w (.agg #[.int .i64 n2y, .int .i64 d2y, .pointer p2y]) mb k2y] [h2z : CF w (.agg #[.int .i64 n2z, .int .i64 d2z, .pointer p2z]) mc k2z] (b : k1x ≤ 8000 ∧ k1y ≤ 8000 ∧ k1z ≤ 8000 ∧ k2x ≤ 8000 ∧ k2y ≤ 8000 ∧ k2z ≤ 8000) (HZ : Hid (decide (la * mb - lb * ma = 0) = false)) :
    Calls Tryz.prog 164 #[.agg #[.int .i64 n1x, .int .i64 d1x, .pointer p1x, .int .i64 n1y, .int .i64 d1y, .pointer p1y, .int .i64 n1z, .int .i64 d1z, .pointer p1z], .agg #[.int .i64 n2x, .int .i64 d2x, .pointer p2x, .int .i64 n2y, .int .i64 d2y, .pointer p2y, .int .i64 n2z, .int .i64 d2z, .pointer p2z]] w (PFBRet w ((lb * mc - lc * mb) / (la * mb - lb * ma)) ((lc * ma - la * mc) / (la * mb - lb * ma)) true (3 * (k1x + k1y + k1z + k2x + k2y + k2z) + 100)) := by
  go_enter Tryz.func164, Tryz.ntmps164
  go_upto_region 1 with fail
  go_cut [6] from 9 to 13 (fun t wx => ∃ (b6 : Nat) (n6 d6 : Int) (p6 : Option Addr), t = .pointer (some ⟨b6, 0, none⟩) ∧ Bx wx b6 147 [.int .i64 n6, .int .i64 d6, .pointer p6] ∧ CF wx (.agg #[.int .i64 n6, .int .i64 d6, .pointer p6]) (la * mb - lb * ma) (2 * (k1x + k1y + k1z + k2x + k2y + k2z) + 20) ∧ Bx wx w.heap.size 178 [.int .i64 n1x, .int .i64 d1x, .pointer p1x, .int .i64 n1y, .int .i64 d1y, .pointer p1y, .int .i64 n1z, .int .i64 d1z, .pointer p1z] ∧ Bx wx (w.heap.size + 1) 178 [.int .i64 n2x, .int .i64 d2x, .pointer p2x, .int .i64 n2y, .int .i64 d2y, .pointer p2y, .int .i64 n2z, .int .i64 d2z, .pointer p2z] ∧ Bx wx (w.heap.size + 1 + 1) 152 [.int .i64 0, .int .i64 0, .pointer none, .int .i64 0, .int .i64 0, .pointer none] ∧ CF wx (.agg #[.int .i64 n1x, .int .i64 d1x, .pointer p1x]) la k1x ∧ CF wx (.agg #[.int .i64 n1y, .int .i64 d1y, .pointer p1y]) lb k1y ∧ CF wx (.agg #[.int .i64 n1z, .int .i64 d1z, .pointer p1z]) lc k1z ∧ CF wx (.agg #[.int .i64 n2x, .int .i64 d2x, .pointer p2x]) ma k2x ∧ CF wx (.agg #[.int .i64 n2y, .int .i64 d2y, .pointer p2y]) mb k2y ∧ CF wx (.agg #[.int .i64 n2z, .int .i64 d2z, .pointer p2z]) mc k2z ∧ Kp w wx)
  case first =>
    refine rgn [] [] fun hHeld => ?_
    refine tk 0 hHeld ?_
    refine tk 2 hHeld ?_
    refine wpAnyT_ready (rs := [1, 5]) (by kernel_rfl) (by simp) ?_
    refine AllT.cons (by simp; rfl) (fun K hK => ?_) (AllT.cons (by simp; rfl) (fun K hK => ?_) AllT.nil)
    go_simp
    (with_reducible refine Calls.cPF (lnNormalC (by omega)) ?_); intros
    refine hd hK ?_
    clear hHeld hK K
    intro hHeld
    refine wpAnyT_ready (rs := [3, 5]) (by kernel_rfl) (by simp) ?_
    refine AllT.cons (by simp; rfl) (fun K hK => ?_) (AllT.cons (by simp; rfl) (fun K hK => ?_) AllT.nil)
    go_simp
    (with_reducible refine Calls.cPF (lnNormalC (by omega)) ?_); intros
    refine hd hK ?_
    clear hHeld hK K
    intro hHeld
    refine wpAnyT_ready (rs := [4, 5]) (by kernel_rfl) (by simp) ?_
    refine AllT.cons (by simp; rfl) (fun K hK => ?_) (AllT.cons (by simp; rfl) (fun K hK => ?_) AllT.nil)
    go_simp
    (with_reducible refine Calls.cF (ptCrossC (by omega)) ?_); intros
    refine hd hK ?_
    clear hHeld hK K
    intro hHeld
    refine st 5 fun K hK => ?_
    go_simp
    refine hd hK ?_
    clear hHeld hK K
    intro hHeld
    refine st 6 fun K hK => ?_
    go_simp
    refine hd hK ?_
    clear hHeld hK K
    intro hHeld
    refine dn ?_
    clear hHeld
    go_wp2_with fail
    go_meet
    exact ⟨_, _, _, _, rfl, inferInstance, CF.cast inferInstance rfl (by omega), inferInstance, inferInstance, inferInstance, inferInstance, inferInstance, inferInstance, inferInstance, inferInstance, inferInstance, inferInstance⟩
    go_simp
    refine hd hK ?_
    clear hHeld hK K
    intro hHeld
    refine st 4 fun K hK => ?_
    go_simp
    (with_reducible refine Calls.cF (ptCrossC (by omega)) ?_); intros
    refine hd hK ?_
    clear hHeld hK K
    intro hHeld
    refine st 6 fun K hK => ?_
    go_simp
    refine hd hK ?_
    clear hHeld hK K
    intro hHeld
    refine dn ?_
    clear hHeld
    go_wp2_with fail
    go_meet
    exact ⟨_, _, _, _, rfl, inferInstance, CF.cast inferInstance rfl (by omega), inferInstance, inferInstance, inferInstance, inferInstance, inferInstance, inferInstance, inferInstance, inferInstance, inferInstance, inferInstance⟩
    go_simp
    refine hd hK ?_
    clear hHeld hK K
    intro hHeld
    refine st 3 fun K hK => ?_
    go_simp
    (with_reducible refine Calls.cPF (lnNormalC (by omega)) ?_); intros
    refine hd hK ?_
    clear hHeld hK K
    intro hHeld
    refine st 4 fun K hK => ?_
    go_simp
    (with_reducible refine Calls.cF (ptCrossC (by omega)) ?_); intros
    refine hd hK ?_
    clear hHeld hK K
    intro hHeld
    refine st 6 fun K hK => ?_
    go_simp
    refine hd hK ?_
    clear hHeld hK K
    intro hHeld
    refine dn ?_
    clear hHeld
    go_wp2_with fail
    go_meet
    exact ⟨_, _, _, _, rfl, inferInstance, CF.cast inferInstance rfl (by omega), inferInstance, inferInstance, inferInstance, inferInstance, inferInstance, inferInstance, inferInstance, inferInstance, inferInstance, inferInstance⟩
    go_simp
    refine hd hK ?_
    clear hHeld hK K
    intro hHeld
    refine st 1 fun K hK => ?_
    go_simp
    (with_reducible refine Calls.cPF (lnNormalC (by omega)) ?_); intros
    refine hd hK ?_
    clear hHeld hK K
    intro hHeld
    refine st 3 fun K hK => ?_
    go_simp
    (with_reducible refine Calls.cPF (lnNormalC (by omega)) ?_); intros
    refine hd hK ?_
    clear hHeld hK K
    intro hHeld
    refine st 4 fun K hK => ?_
    go_simp
    (with_reducible refine Calls.cF (ptCrossC (by omega)) ?_); intros
    refine hd hK ?_
    clear hHeld hK K
    intro hHeld
    refine st 6 fun K hK => ?_
    go_simp
    refine hd hK ?_
    clear hHeld hK K
    intro hHeld
    refine dn ?_
    clear hHeld
    go_wp2_with fail
    go_meet
    exact ⟨_, _, _, _, rfl, inferInstance, CF.cast inferInstance rfl (by omega), inferInstance, inferInstance, inferInstance, inferInstance, inferInstance, inferInstance, inferInstance, inferInstance, inferInstance, inferInstance⟩
  case rest =>
   obtain ⟨b6, n6, d6, p6, rfl, i1, i2, i3, i4, i5, i6, i7, i8, i9, i10, i11, i12⟩ := hcut
   go_upto_region 4 with (first | (go_at_call 225; (with_reducible refine Calls.cE (rZeroV HZ) ?_); intros))
   go_cut [7] from 17 to 29 (fun t wx => ∃ (b7 : Nat) (n7 d7 : Int) (p7 : Option Addr), t = .pointer (some ⟨b7, 0, none⟩) ∧ Bx wx b7 147 [.int .i64 n7, .int .i64 d7, .pointer p7] ∧ CF wx (.agg #[.int .i64 n7, .int .i64 d7, .pointer p7]) ((lb * mc - lc * mb) / (la * mb - lb * ma)) (3 * (k1x + k1y + k1z + k2x + k2y + k2z) + 100) ∧ Kp wc wx)
   case first =>
    refine rgn [] [] fun hHeld => ?_
    refine tk 0 hHeld ?_
    refine tk 1 hHeld ?_
    refine tk 2 hHeld ?_
    refine tk 3 hHeld ?_
    refine tk 5 hHeld ?_
    refine tk 6 hHeld ?_
    refine tk 7 hHeld ?_
    refine tk 8 hHeld ?_
    refine tk 11 hHeld ?_
    refine wpAnyT_ready (rs := [4, 13]) (by kernel_rfl) (by simp) ?_
    refine AllT.cons (by simp; rfl) (fun K hK => ?_) (AllT.cons (by simp; rfl) (fun K hK => ?_) AllT.nil)
    go_simp
    (with_reducible refine Calls.cF (rMulC (by omega)) ?_); intros
    refine hd hK ?_
    clear hHeld hK K
    intro hHeld
    refine wpAnyT_ready (rs := [9, 13]) (by kernel_rfl) (by simp) ?_
    refine AllT.cons (by simp; rfl) (fun K hK => ?_) (AllT.cons (by simp; rfl) (fun K hK => ?_) AllT.nil)
    go_simp
    (with_reducible refine Calls.cF (rMulC (by omega)) ?_); intros
    refine hd hK ?_
    clear hHeld hK K
    intro hHeld
    refine wpAnyT_ready (rs := [10, 13]) (by kernel_rfl) (by simp) ?_
    refine AllT.cons (by simp; rfl) (fun K hK => ?_) (AllT.cons (by simp; rfl) (fun K hK => ?_) AllT.nil)
    go_simp
    (with_reducible refine Calls.cF (rSubC (by omega)) ?_); intros
    refine hd hK ?_
    clear hHeld hK K
    intro hHeld
    refine wpAnyT_ready (rs := [12, 13]) (by kernel_rfl) (by simp) ?_
    refine AllT.cons (by simp; rfl) (fun K hK => ?_) (AllT.cons (by simp; rfl) (fun K hK => ?_) AllT.nil)
    go_simp
    (with_reducible refine Calls.cF (rQuoC (by omega)) ?_); intros
    refine hd hK ?_
    clear hHeld hK K
    intro hHeld
    refine st 13 fun K hK => ?_
    go_simp
    refine hd hK ?_
    clear hHeld hK K
    intro hHeld
    refine st 14 fun K hK => ?_
    go_simp
    refine hd hK ?_
    clear hHeld hK K
    intro hHeld
    refine dn ?_
    clear hHeld
    go_wp2_with fail
    go_meet
    exact ⟨_, _, _, _, rfl, inferInstance, CF.cast inferInstance rfl (by omega), inferInstance⟩
    go_simp
    refine hd hK ?_
    clear hHeld hK K
    intro hHeld
    refine st 12 fun K hK => ?_
    go_simp
    (with_reducible refine Calls.cF (rQuoC (by omega)) ?_); intros
    refine hd hK ?_
    clear hHeld hK K
    intro hHeld
    refine st 14 fun K hK => ?_
    go_simp
    refine hd hK ?_
    clear hHeld hK K
    intro hHeld
    refine dn ?_
    clear hHeld
    go_wp2_with fail
    go_meet
    exact ⟨_, _, _, _, rfl, inferInstance, CF.cast inferInstance rfl (by omega), inferInstance⟩
    go_simp
    refine hd hK ?_
    clear hHeld hK K
    intro hHeld
    refine st 10 fun K hK => ?_
    go_simp
    (with_reducible refine Calls.cF (rSubC (by omega)) ?_); intros
    refine hd hK ?_
    clear hHeld hK K
    intro hHeld
    refine st 12 fun K hK => ?_
    go_simp
    (with_reducible refine Calls.cF (rQuoC (by omega)) ?_); intros
    refine hd hK ?_
    clear hHeld hK K
    intro hHeld
    refine st 14 fun K hK => ?_
    go_simp
    refine hd hK ?_
    clear hHeld hK K
    intro hHeld
    refine dn ?_
    clear hHeld
    go_wp2_with fail
    go_meet
    exact ⟨_, _, _, _, rfl, inferInstance, CF.cast inferInstance rfl (by omega), inferInstance⟩
    go_simp
    refine hd hK ?_
    clear hHeld hK K
    intro hHeld
    refine st 9 fun K hK => ?_
    go_simp
    (with_reducible refine Calls.cF (rMulC (by omega)) ?_); intros
    refine hd hK ?_
    clear hHeld hK K
    intro hHeld
    refine st 10 fun K hK => ?_
    go_simp
    (with_reducible refine Calls.cF (rSubC (by omega)) ?_); intros
    refine hd hK ?_
    clear hHeld hK K
    intro hHeld
    refine st 12 fun K hK => ?_
    go_simp
    (with_reducible refine Calls.cF (rQuoC (by omega)) ?_); intros
    refine hd hK ?_
    clear hHeld hK K
    intro hHeld
    refine st 14 fun K hK => ?_
    go_simp
    refine hd hK ?_
    clear hHeld hK K
    intro hHeld
    refine dn ?_
    clear hHeld
    go_wp2_with fail
    go_meet
    exact ⟨_, _, _, _, rfl, inferInstance, CF.cast inferInstance rfl (by omega), inferInstance⟩
    go_simp
    refine hd hK ?_
    clear hHeld hK K
    intro hHeld
    refine st 4 fun K hK => ?_
    go_simp
    (with_reducible refine Calls.cF (rMulC (by omega)) ?_); intros
    refine hd hK ?_
    clear hHeld hK K
    intro hHeld
    refine st 9 fun K hK => ?_
    go_simp
    (with_reducible refine Calls.cF (rMulC (by omega)) ?_); intros
    refine hd hK ?_
    clear hHeld hK K
    intro hHeld
    refine st 10 fun K hK => ?_
    go_simp
    (with_reducible refine Calls.cF (rSubC (by omega)) ?_); intros
    refine hd hK ?_
    clear hHeld hK K
    intro hHeld
    refine st 12 fun K hK => ?_
    go_simp
    (with_reducible refine Calls.cF (rQuoC (by omega)) ?_); intros
    refine hd hK ?_
    clear hHeld hK K
    intro hHeld
    refine st 14 fun K hK => ?_
    go_simp
    refine hd hK ?_
    clear hHeld hK K
    intro hHeld
    refine dn ?_
    clear hHeld
    go_wp2_with fail
    go_meet
    exact ⟨_, _, _, _, rfl, inferInstance, CF.cast inferInstance rfl (by omega), inferInstance⟩
   case rest =>
    obtain ⟨b7, n7, d7, p7, rfl, j1, j2, ⟨j3⟩⟩ := hcut
    have j4 := Kp1.mk j3
    have j5 : Kp w wc := inferInstance
    go_upto_region 5 with fail
    go_cut [8] from 30 to 42 (fun t wx => ∃ (b8 : Nat) (n8 d8 : Int) (p8 : Option Addr), t = .pointer (some ⟨b8, 0, none⟩) ∧ Bx wx b8 147 [.int .i64 n8, .int .i64 d8, .pointer p8] ∧ CF wx (.agg #[.int .i64 n8, .int .i64 d8, .pointer p8]) ((lc * ma - la * mc) / (la * mb - lb * ma)) (3 * (k1x + k1y + k1z + k2x + k2y + k2z) + 100) ∧ Kp wc wx)
    case first =>
     refine rgn [] [] fun hHeld => ?_
     refine tk 0 hHeld ?_
     refine tk 1 hHeld ?_
     refine tk 2 hHeld ?_
     refine tk 3 hHeld ?_
     refine tk 5 hHeld ?_
     refine tk 6 hHeld ?_
     refine tk 7 hHeld ?_
     refine tk 8 hHeld ?_
     refine tk 11 hHeld ?_
     refine wpAnyT_ready (rs := [4, 13]) (by kernel_rfl) (by simp) ?_
     refine AllT.cons (by simp; rfl) (fun K hK => ?_) (AllT.cons (by simp; rfl) (fun K hK => ?_) AllT.nil)
     go_simp
     (with_reducible refine Calls.cF (rMulC (by omega)) ?_); intros
     refine hd hK ?_
     clear hHeld hK K
     intro hHeld
     refine wpAnyT_ready (rs := [9, 13]) (by kernel_rfl) (by simp) ?_
     refine AllT.cons (by simp; rfl) (fun K hK => ?_) (AllT.cons (by simp; rfl) (fun K hK => ?_) AllT.nil)
     go_simp
     (with_reducible refine Calls.cF (rMulC (by omega)) ?_); intros
     refine hd hK ?_
     clear hHeld hK K
     intro hHeld
     refine wpAnyT_ready (rs := [10, 13]) (by kernel_rfl) (by simp) ?_
     refine AllT.cons (by simp; rfl) (fun K hK => ?_) (AllT.cons (by simp; rfl) (fun K hK => ?_) AllT.nil)
     go_simp
     (with_reducible refine Calls.cF (rSubC (by omega)) ?_); intros
     refine hd hK ?_
     clear hHeld hK K
     intro hHeld
     refine wpAnyT_ready (rs := [12, 13]) (by kernel_rfl) (by simp) ?_
     refine AllT.cons (by simp; rfl) (fun K hK => ?_) (AllT.cons (by simp; rfl) (fun K hK => ?_) AllT.nil)
     go_simp
     (with_reducible refine Calls.cF (rQuoC (by omega)) ?_); intros
     refine hd hK ?_
     clear hHeld hK K
     intro hHeld
     refine st 13 fun K hK => ?_
     go_simp
     refine hd hK ?_
     clear hHeld hK K
     intro hHeld
     refine st 14 fun K hK => ?_
     go_simp
     refine hd hK ?_
     clear hHeld hK K
     intro hHeld
     refine dn ?_
     clear hHeld
     go_wp2_with fail
     go_meet
     exact ⟨_, _, _, _, rfl, inferInstance, CF.cast inferInstance rfl (by omega), inferInstance⟩
     go_simp
     refine hd hK ?_
     clear hHeld hK K
     intro hHeld
     refine st 12 fun K hK => ?_
     go_simp
     (with_reducible refine Calls.cF (rQuoC (by omega)) ?_); intros
     refine hd hK ?_
     clear hHeld hK K
     intro hHeld
     refine st 14 fun K hK => ?_
     go_simp
     refine hd hK ?_
     clear hHeld hK K
     intro hHeld
     refine dn ?_
     clear hHeld
     go_wp2_with fail
     go_meet
     exact ⟨_, _, _, _, rfl, inferInstance, CF.cast inferInstance rfl (by omega), inferInstance⟩
     go_simp
     refine hd hK ?_
     clear hHeld hK K
     intro hHeld
     refine st 10 fun K hK => ?_
     go_simp
     (with_reducible refine Calls.cF (rSubC (by omega)) ?_); intros
     refine hd hK ?_
     clear hHeld hK K
     intro hHeld
     refine st 12 fun K hK => ?_
     go_simp
     (with_reducible refine Calls.cF (rQuoC (by omega)) ?_); intros
     refine hd hK ?_
     clear hHeld hK K
     intro hHeld
     refine st 14 fun K hK => ?_
     go_simp
     refine hd hK ?_
     clear hHeld hK K
     intro hHeld
     refine dn ?_
     clear hHeld
     go_wp2_with fail
     go_meet
     exact ⟨_, _, _, _, rfl, inferInstance, CF.cast inferInstance rfl (by omega), inferInstance⟩
     go_simp
     refine hd hK ?_
     clear hHeld hK K
     intro hHeld
     refine st 9 fun K hK => ?_
     go_simp
     (with_reducible refine Calls.cF (rMulC (by omega)) ?_); intros
     refine hd hK ?_
     clear hHeld hK K
     intro hHeld
     refine st 10 fun K hK => ?_
     go_simp
     (with_reducible refine Calls.cF (rSubC (by omega)) ?_); intros
     refine hd hK ?_
     clear hHeld hK K
     intro hHeld
     refine st 12 fun K hK => ?_
     go_simp
     (with_reducible refine Calls.cF (rQuoC (by omega)) ?_); intros
     refine hd hK ?_
     clear hHeld hK K
     intro hHeld
     refine st 14 fun K hK => ?_
     go_simp
     refine hd hK ?_
     clear hHeld hK K
     intro hHeld
     refine dn ?_
     clear hHeld
     go_wp2_with fail
     go_meet
     exact ⟨_, _, _, _, rfl, inferInstance, CF.cast inferInstance rfl (by omega), inferInstance⟩
     go_simp
     refine hd hK ?_
     clear hHeld hK K
     intro hHeld
     refine st 4 fun K hK => ?_
     go_simp
     (with_reducible refine Calls.cF (rMulC (by omega)) ?_); intros
     refine hd hK ?_
     clear hHeld hK K
     intro hHeld
     refine st 9 fun K hK => ?_
     go_simp
     (with_reducible refine Calls.cF (rMulC (by omega)) ?_); intros
     refine hd hK ?_
     clear hHeld hK K
     intro hHeld
     refine st 10 fun K hK => ?_
     go_simp
     (with_reducible refine Calls.cF (rSubC (by omega)) ?_); intros
     refine hd hK ?_
     clear hHeld hK K
     intro hHeld
     refine st 12 fun K hK => ?_
     go_simp
     (with_reducible refine Calls.cF (rQuoC (by omega)) ?_); intros
     refine hd hK ?_
     clear hHeld hK K
     intro hHeld
     refine st 14 fun K hK => ?_
     go_simp
     refine hd hK ?_
     clear hHeld hK K
     intro hHeld
     refine dn ?_
     clear hHeld
     go_wp2_with fail
     go_meet
     exact ⟨_, _, _, _, rfl, inferInstance, CF.cast inferInstance rfl (by omega), inferInstance⟩
    case rest =>
     obtain ⟨b8, n8, d8, p8, rfl, l1, l2, ⟨l3⟩⟩ := hcut
     have l4 := Kp1.mk l3
     have l5 : Kp w wc := inferInstance
     go_wp2_with fail
     refine ret_bt rfl Tryz.underlying152 rfl (by kernel_rfl) rfl rfl rfl ?_
     exact PFBRet.fin rfl (by omega) rfl (by omega)

theorem gMeetNo {w : World} {n1x d1x n1y d1y n1z d1z n2x d2x n2y d2y n2z d2z : Int} {p1x p1y p1z p2x p2y p2z : Option Addr} {la lb lc ma mb mc : Rat} {k1x k1y k1z k2x k2y k2z : Nat} [h1x : CF w (.agg #[.int .i64 n1x, .int .i64 d1x, .pointer p1x]) la k1x] [h1y : CF w (.agg #[.int .i64 n1y, .int .i64 d1y, .pointer p1y]) lb k1y] [h1z : CF w (.agg #[.int .i64 n1z, .int .i64 d1z, .pointer p1z]) lc k1z] [h2x : CF w (.agg #[.int .i64 n2x, .int .i64 d2x, .pointer p2x]) ma k2x] [h2y : CF w (.agg #[.int .i64 n2y, .int .i64 d2y, .pointer p2y]) mb k2y] [h2z : CF w (.agg #[.int .i64 n2z, .int .i64 d2z, .pointer p2z]) mc k2z] (b : k1x ≤ 8000 ∧ k1y ≤ 8000 ∧ k1z ≤ 8000 ∧ k2x ≤ 8000 ∧ k2y ≤ 8000 ∧ k2z ≤ 8000) (HZ : Hid (decide (la * mb - lb * ma = 0) = true)) :
    Calls Tryz.prog 164 #[.agg #[.int .i64 n1x, .int .i64 d1x, .pointer p1x, .int .i64 n1y, .int .i64 d1y, .pointer p1y, .int .i64 n1z, .int .i64 d1z, .pointer p1z], .agg #[.int .i64 n2x, .int .i64 d2x, .pointer p2x, .int .i64 n2y, .int .i64 d2y, .pointer p2y, .int .i64 n2z, .int .i64 d2z, .pointer p2z]] w (PFBRet w 0 0 false (3 * (k1x + k1y + k1z + k2x + k2y + k2z) + 100)) := by
  go_enter Tryz.func164, Tryz.ntmps164
  go_upto_region 1 with fail
  go_cut [6] from 9 to 13 (fun t wx => ∃ (b6 : Nat) (n6 d6 : Int) (p6 : Option Addr), t = .pointer (some ⟨b6, 0, none⟩) ∧ Bx wx b6 147 [.int .i64 n6, .int .i64 d6, .pointer p6] ∧ CF wx (.agg #[.int .i64 n6, .int .i64 d6, .pointer p6]) (la * mb - lb * ma) (2 * (k1x + k1y + k1z + k2x + k2y + k2z) + 20) ∧ Bx wx w.heap.size 178 [.int .i64 n1x, .int .i64 d1x, .pointer p1x, .int .i64 n1y, .int .i64 d1y, .pointer p1y, .int .i64 n1z, .int .i64 d1z, .pointer p1z] ∧ Bx wx (w.heap.size + 1) 178 [.int .i64 n2x, .int .i64 d2x, .pointer p2x, .int .i64 n2y, .int .i64 d2y, .pointer p2y, .int .i64 n2z, .int .i64 d2z, .pointer p2z] ∧ Bx wx (w.heap.size + 1 + 1) 152 [.int .i64 0, .int .i64 0, .pointer none, .int .i64 0, .int .i64 0, .pointer none] ∧ CF wx (.agg #[.int .i64 n1x, .int .i64 d1x, .pointer p1x]) la k1x ∧ CF wx (.agg #[.int .i64 n1y, .int .i64 d1y, .pointer p1y]) lb k1y ∧ CF wx (.agg #[.int .i64 n1z, .int .i64 d1z, .pointer p1z]) lc k1z ∧ CF wx (.agg #[.int .i64 n2x, .int .i64 d2x, .pointer p2x]) ma k2x ∧ CF wx (.agg #[.int .i64 n2y, .int .i64 d2y, .pointer p2y]) mb k2y ∧ CF wx (.agg #[.int .i64 n2z, .int .i64 d2z, .pointer p2z]) mc k2z ∧ Kp w wx)
  case first =>
    refine rgn [] [] fun hHeld => ?_
    refine tk 0 hHeld ?_
    refine tk 2 hHeld ?_
    refine wpAnyT_ready (rs := [1, 5]) (by kernel_rfl) (by simp) ?_
    refine AllT.cons (by simp; rfl) (fun K hK => ?_) (AllT.cons (by simp; rfl) (fun K hK => ?_) AllT.nil)
    go_simp
    (with_reducible refine Calls.cPF (lnNormalC (by omega)) ?_); intros
    refine hd hK ?_
    clear hHeld hK K
    intro hHeld
    refine wpAnyT_ready (rs := [3, 5]) (by kernel_rfl) (by simp) ?_
    refine AllT.cons (by simp; rfl) (fun K hK => ?_) (AllT.cons (by simp; rfl) (fun K hK => ?_) AllT.nil)
    go_simp
    (with_reducible refine Calls.cPF (lnNormalC (by omega)) ?_); intros
    refine hd hK ?_
    clear hHeld hK K
    intro hHeld
    refine wpAnyT_ready (rs := [4, 5]) (by kernel_rfl) (by simp) ?_
    refine AllT.cons (by simp; rfl) (fun K hK => ?_) (AllT.cons (by simp; rfl) (fun K hK => ?_) AllT.nil)
    go_simp
    (with_reducible refine Calls.cF (ptCrossC (by omega)) ?_); intros
    refine hd hK ?_
    clear hHeld hK K
    intro hHeld
    refine st 5 fun K hK => ?_
    go_simp
    refine hd hK ?_
    clear hHeld hK K
    intro hHeld
    refine st 6 fun K hK => ?_
    go_simp
    refine hd hK ?_
    clear hHeld hK K
    intro hHeld
    refine dn ?_
    clear hHeld
    go_wp2_with fail
    go_meet
    exact ⟨_, _, _, _, rfl, inferInstance, CF.cast inferInstance rfl (by omega), inferInstance, inferInstance, inferInstance, inferInstance, inferInstance, inferInstance, inferInstance, inferInstance, inferInstance, inferInstance⟩
    go_simp
    refine hd hK ?_
    clear hHeld hK K
    intro hHeld
    refine st 4 fun K hK => ?_
    go_simp
    (with_reducible refine Calls.cF (ptCrossC (by omega)) ?_); intros
    refine hd hK ?_
    clear hHeld hK K
    intro hHeld
    refine st 6 fun K hK => ?_
    go_simp
    refine hd hK ?_
    clear hHeld hK K
    intro hHeld
    refine dn ?_
    clear hHeld
    go_wp2_with fail
    go_meet
    exact ⟨_, _, _, _, rfl, inferInstance, CF.cast inferInstance rfl (by omega), inferInstance, inferInstance, inferInstance, inferInstance, inferInstance, inferInstance, inferInstance, inferInstance, inferInstance, inferInstance⟩
    go_simp
    refine hd hK ?_
    clear hHeld hK K
    intro hHeld
    refine st 3 fun K hK => ?_
    go_simp
    (with_reducible refine Calls.cPF (lnNormalC (by omega)) ?_); intros
    refine hd hK ?_
    clear hHeld hK K
    intro hHeld
    refine st 4 fun K hK => ?_
    go_simp
    (with_reducible refine Calls.cF (ptCrossC (by omega)) ?_); intros
    refine hd hK ?_
    clear hHeld hK K
    intro hHeld
    refine st 6 fun K hK => ?_
    go_simp
    refine hd hK ?_
    clear hHeld hK K
    intro hHeld
    refine dn ?_
    clear hHeld
    go_wp2_with fail
    go_meet
    exact ⟨_, _, _, _, rfl, inferInstance, CF.cast inferInstance rfl (by omega), inferInstance, inferInstance, inferInstance, inferInstance, inferInstance, inferInstance, inferInstance, inferInstance, inferInstance, inferInstance⟩
    go_simp
    refine hd hK ?_
    clear hHeld hK K
    intro hHeld
    refine st 1 fun K hK => ?_
    go_simp
    (with_reducible refine Calls.cPF (lnNormalC (by omega)) ?_); intros
    refine hd hK ?_
    clear hHeld hK K
    intro hHeld
    refine st 3 fun K hK => ?_
    go_simp
    (with_reducible refine Calls.cPF (lnNormalC (by omega)) ?_); intros
    refine hd hK ?_
    clear hHeld hK K
    intro hHeld
    refine st 4 fun K hK => ?_
    go_simp
    (with_reducible refine Calls.cF (ptCrossC (by omega)) ?_); intros
    refine hd hK ?_
    clear hHeld hK K
    intro hHeld
    refine st 6 fun K hK => ?_
    go_simp
    refine hd hK ?_
    clear hHeld hK K
    intro hHeld
    refine dn ?_
    clear hHeld
    go_wp2_with fail
    go_meet
    exact ⟨_, _, _, _, rfl, inferInstance, CF.cast inferInstance rfl (by omega), inferInstance, inferInstance, inferInstance, inferInstance, inferInstance, inferInstance, inferInstance, inferInstance, inferInstance, inferInstance⟩
  case rest =>
   obtain ⟨b6, n6, d6, p6, rfl, i1, i2, i3, i4, i5, i6, i7, i8, i9, i10, i11, i12⟩ := hcut
   go_wp2_with (first | (go_at_call 225; (with_reducible refine Calls.cE (rZeroV HZ) ?_); intros))
   refine ret_bt rfl Tryz.underlying152 rfl (by kernel_rfl) rfl rfl rfl ?_
   exact PFBRet.fin rfl (by omega) rfl (by omega)

end Go.Proofs.YtdlnoeegboapkaaGreatDoor

/- Spans and segments of package geo: do they overlap, where do they meet. printed by a small program (mkfm.py). -/
namespace Go.Proofs.YtdlnoeegboapkaaGreatDoor
open Go.RowKit
set_option maxRecDepth 100000
set_option maxHeartbeats 40000000
set_option synthInstance.maxSize 100000
set_option synthInstance.maxHeartbeats 1000000
set_option linter.unusedVariables false

/-- A span with both ends is returned. -/
def IvFRet (w : World) (x y : Rat) (k : Nat) (e : Ending) (w' : World) : Prop := ∃ (nu du : Int) (pu : Option Addr) (nv dv : Int) (pv : Option Addr), e = .returned (.agg #[.int .i64 nu, .int .i64 du, .pointer pu, .int .i64 nv, .int .i64 dv, .pointer pv, .bool false, .bool false]) ∧ CF w' (.agg #[.int .i64 nu, .int .i64 du, .pointer pu]) x k ∧ CF w' (.agg #[.int .i64 nv, .int .i64 dv, .pointer pv]) y k ∧ Below w.heap.size w w'
theorem Calls.cIvF {P : Program} {f : FuncId} {args : Array Value} {w : World} {x y : Rat} {k : Nat} {K : Ending → World → Prop} (h : Calls P f args w (IvFRet w x y k))
    (hK : ∀ w' [Kp1 w w'] (nu du : Int) (pu : Option Addr) (nv dv : Int) (pv : Option Addr) [CF w' (.agg #[.int .i64 nu, .int .i64 du, .pointer pu]) x k] [CF w' (.agg #[.int .i64 nv, .int .i64 dv, .pointer pv]) y k], K (.returned (.agg #[.int .i64 nu, .int .i64 du, .pointer pu, .int .i64 nv, .int .i64 dv, .pointer pv, .bool false, .bool false])) w') : Calls P f args w K := by
  refine h.mono ?_
  rintro e w' ⟨nu, du, pu, nv, dv, pv, rfl, hx, hy, hb⟩
  exact @hK w' ⟨hb⟩ nu du pu nv dv pv hx hy
theorem IvFRet.fin {w w' : World} {nu du nv dv : Int} {pu pv : Option Addr} {x x' y y' : Rat} {k kx ky : Nat} [b : Kp w w'] [hx : CF w' (.agg #[.int .i64 nu, .int .i64 du, .pointer pu]) x kx] [hy : CF w' (.agg #[.int .i64 nv, .int .i64 dv, .pointer pv]) y ky] (ex : x = x') (mx : kx ≤ k) (ey : y = y') (my : ky ≤ k) : IvFRet w x' y' k (.returned (.agg #[.int .i64 nu, .int .i64 du, .pointer pu, .int .i64 nv, .int .i64 dv, .pointer pv, .bool false, .bool false])) w' :=
  ⟨_, _, _, _, _, _, rfl, hx.cast ex mx, hy.cast ey my, b.out⟩
/-- A span with both ends is returned, and a Boolean. -/
def IvBRet (w : World) (x y : Rat) (v : Bool) (k : Nat) (e : Ending) (w' : World) : Prop := ∃ (nu du : Int) (pu : Option Addr) (nv dv : Int) (pv : Option Addr), e = .returned (.tuple #[.agg #[.int .i64 nu, .int .i64 du, .pointer pu, .int .i64 nv, .int .i64 dv, .pointer pv, .bool false, .bool false], .bool v]) ∧ CF w' (.agg #[.int .i64 nu, .int .i64 du, .pointer pu]) x k ∧ CF w' (.agg #[.int .i64 nv, .int .i64 dv, .pointer pv]) y k ∧ Below w.heap.size w w'
theorem Calls.cIvB {P : Program} {f : FuncId} {args : Array Value} {w : World} {x y : Rat} {v : Bool} {k : Nat} {K : Ending → World → Prop} (h : Calls P f args w (IvBRet w x y v k))
    (hK : ∀ w' [Kp1 w w'] (nu du : Int) (pu : Option Addr) (nv dv : Int) (pv : Option Addr) [CF w' (.agg #[.int .i64 nu, .int .i64 du, .pointer pu]) x k] [CF w' (.agg #[.int .i64 nv, .int .i64 dv, .pointer pv]) y k], K (.returned (.tuple #[.agg #[.int .i64 nu, .int .i64 du, .pointer pu, .int .i64 nv, .int .i64 dv, .pointer pv, .bool false, .bool false], .bool v])) w') : Calls P f args w K := by
  refine h.mono ?_
  rintro e w' ⟨nu, du, pu, nv, dv, pv, rfl, hx, hy, hb⟩
  exact @hK w' ⟨hb⟩ nu du pu nv dv pv hx hy
theorem IvBRet.fin {w w' : World} {nu du nv dv : Int} {pu pv : Option Addr} {x x' y y' : Rat} {v : Bool} {k kx ky : Nat} [b : Kp w w'] [hx : CF w' (.agg #[.int .i64 nu, .int .i64 du, .pointer pu]) x kx] [hy : CF w' (.agg #[.int .i64 nv, .int .i64 dv, .pointer pv]) y ky] (ex : x = x') (mx : kx ≤ k) (ey : y = y') (my : ky ≤ k) : IvBRet w x' y' v k (.returned (.tuple #[.agg #[.int .i64 nu, .int .i64 du, .pointer pu, .int .i64 nv, .int .i64 dv, .pointer pv, .bool false, .bool false], .bool v])) w' :=
  ⟨_, _, _, _, _, _, rfl, hx.cast ex mx, hy.cast ey my, b.out⟩
theorem isgn_sub' (x y : Rat) : (x < y ∧ isgn (x - y).num = -1) ∨ (x = y ∧ isgn (x - y).num = 0) ∨ (y < x ∧ isgn (x - y).num = 1) := by
  rcases isgn_cases (x - y).num with ⟨_, h⟩ | ⟨_, h⟩ | ⟨_, h⟩
  · exact .inl ⟨by have := isg_neg.1 h; grind, h⟩
  · exact .inr (.inl ⟨by have := isg_zero.1 h; grind, h⟩)
  · exact .inr (.inr ⟨by have := isg_pos.1 h; grind, h⟩)
theorem CFRet.cast {w w' : World} {q q' : Rat} {k : Nat} {e : Ending} (h : CFRet w q k e w') (hq : q = q') : CFRet w q' k e w' := hq ▸ h
theorem maxC {w : World} {n1 d1 n2 d2 : Int} {p1 p2 : Option Addr} {x y : Rat} {k : Nat} [j1 : CF w (.agg #[.int .i64 n1, .int .i64 d1, .pointer p1]) x k] [j2 : CF w (.agg #[.int .i64 n2, .int .i64 d2, .pointer p2]) y k] (b : k ≤ 100000) :
    Calls Tryz.prog 232 #[.agg #[.int .i64 n1, .int .i64 d1, .pointer p1], .agg #[.int .i64 n2, .int .i64 d2, .pointer p2]] w (CFRet w (rmax x y) k) := by
  rcases isgn_sub' y x with ⟨h, hv⟩ | ⟨h, hv⟩ | ⟨h, hv⟩
  all_goals
    have HV := Lib.hid hv
    have HR : Hid (rmax x y = (if x < y then y else x)) := Lib.hid (by unfold rmax; rfl)
    clear hv
    go_enter Tryz.func232, Tryz.ntmps232
    go_wp2_with (first
      | (go_at_call 204; (with_reducible refine Calls.cE (rCmpV (by omega) HV) ?_); intros))
    refine ret_bx rfl Tryz.underlying147 rfl (by kernel_rfl) rfl rfl rfl ?_
    refine CFRet.cast (CFRet.fin rfl (Nat.le_refl _)) ?_
    rw [HR.out]
    first
      | rw [if_pos (by grind)]
      | rw [if_neg (by grind)]
theorem minC {w : World} {n1 d1 n2 d2 : Int} {p1 p2 : Option Addr} {x y : Rat} {k : Nat} [j1 : CF w (.agg #[.int .i64 n1, .int .i64 d1, .pointer p1]) x k] [j2 : CF w (.agg #[.int .i64 n2, .int .i64 d2, .pointer p2]) y k] (b : k ≤ 100000) :
    Calls Tryz.prog 233 #[.agg #[.int .i64 n1, .int .i64 d1, .pointer p1], .agg #[.int .i64 n2, .int .i64 d2, .pointer p2]] w (CFRet w (rmin x y) k) := by
  rcases isgn_sub' y x with ⟨h, hv⟩ | ⟨h, hv⟩ | ⟨h, hv⟩
  all_goals
    have HV := Lib.hid hv
    have HR : Hid (rmin x y = (if y < x then y else x)) := Lib.hid (by unfold rmin; rfl)
    clear hv
    go_enter Tryz.func233, Tryz.ntmps233
    go_wp2_with (first
      | (go_at_call 204; (with_reducible refine Calls.cE (rCmpV (by omega) HV) ?_); intros))
    refine ret_bx rfl Tryz.underlying147 rfl (by kernel_rfl) rfl rfl rfl ?_
    refine CFRet.cast (CFRet.fin rfl (Nat.le_refl _)) ?_
    rw [HR.out]
    first
      | rw [if_pos (by grind)]
      | rw [if_neg (by grind)]
theorem ivEmptyV {w : World} {v : Bool} {nu du nv dv : Int} {pu pv : Option Addr} {lo hi : Rat} {k : Nat} [ju : CF w (.agg #[.int .i64 nu, .int .i64 du, .pointer pu]) lo k] [jv : CF w (.agg #[.int .i64 nv, .int .i64 dv, .pointer pv]) hi k] (b : k ≤ 100000) (hv : Hid (decide (hi ≤ lo) = v)) :
    Calls Tryz.prog 234 #[.agg #[.int .i64 nu, .int .i64 du, .pointer pu, .int .i64 nv, .int .i64 dv, .pointer pv, .bool false, .bool false]] w (fun e w' => e = .returned (.bool v) ∧ Below w.heap.size w w') := by
  rcases isgn_sub' lo hi with ⟨h, hc⟩ | ⟨h, hc⟩ | ⟨h, hc⟩
  all_goals
    have HV := Lib.hid hc
    clear hc
    go_enter Tryz.func234, Tryz.ntmps234
    go_wp2_with (first
      | (go_at_call 204; (with_reducible refine Calls.cE (rCmpV (by omega) HV) ?_); intros))
    go_ret
    first
      | exact E.fin (by rw [← hv.out, decide_eq_true (by grind)]; rfl)
      | exact E.fin (by rw [← hv.out, decide_eq_false (by grind)]; rfl)
theorem ivHasV {w : World} {v : Bool} {nu du nv dv nt dt : Int} {pu pv pt : Option Addr} {lo hi t : Rat} {k kt : Nat} [ju : CF w (.agg #[.int .i64 nu, .int .i64 du, .pointer pu]) lo k] [jv : CF w (.agg #[.int .i64 nv, .int .i64 dv, .pointer pv]) hi k] [jt : CF w (.agg #[.int .i64 nt, .int .i64 dt, .pointer pt]) t kt] (b : k ≤ 100000 ∧ kt ≤ 100000) (hv : Hid (decide (inV lo hi t) = v)) :
    Calls Tryz.prog 165 #[.agg #[.int .i64 nu, .int .i64 du, .pointer pu, .int .i64 nv, .int .i64 dv, .pointer pv, .bool false, .bool false], .agg #[.int .i64 nt, .int .i64 dt, .pointer pt]] w (fun e w' => e = .returned (.bool v) ∧ Below w.heap.size w w') := by
  rcases isgn_sub' lo t with ⟨h, hc⟩ | ⟨h, hc⟩ | ⟨h, hc⟩
  all_goals
    rcases isgn_sub' hi t with ⟨h', hc'⟩ | ⟨h', hc'⟩ | ⟨h', hc'⟩
    all_goals
      have HV := Lib.hid hc
      have HW := Lib.hid hc'
      clear hc hc'
      go_enter Tryz.func165, Tryz.ntmps165
      go_wp2_with (first
        | (go_at_call 204; (with_reducible refine Calls.cE (rCmpV (by omega) HV) ?_); intros)
        | (go_at_call 204; (with_reducible refine Calls.cE (rCmpV (by omega) HW) ?_); intros))
      go_ret
      first
        | exact E.fin (by rw [show v = true from hv.out.symm.trans (decide_eq_true (show inV lo hi t from ⟨by grind, by grind⟩))]; rfl)
        | exact E.fin (by rw [show v = false from hv.out.symm.trans (decide_eq_false (fun hh : inV lo hi t => by unfold inV at hh; grind))]; rfl)
theorem ivNegC {w : World} {nu du nv dv : Int} {pu pv : Option Addr} {lo hi : Rat} {k : Nat} [ju : CF w (.agg #[.int .i64 nu, .int .i64 du, .pointer pu]) lo k] [jv : CF w (.agg #[.int .i64 nv, .int .i64 dv, .pointer pv]) hi k] (b : k ≤ 100000) :
    Calls Tryz.prog 223 #[.agg #[.int .i64 nu, .int .i64 du, .pointer pu, .int .i64 nv, .int .i64 dv, .pointer pv, .bool false, .bool false]] w (IvFRet w (-hi) (-lo) k) := by
  go_enter Tryz.func223, Tryz.ntmps223
  go_wp2_with (first
    | (go_at_call 268; (with_reducible refine Calls.cF (rNegC (by omega)) ?_); intros))
  refine ret_bx rfl Tryz.underlying180 rfl (by kernel_rfl) rfl rfl rfl ?_
  exact IvFRet.fin rfl (by omega) rfl (by omega)
theorem ivMeetV {w : World} {v : Bool} {n1 d1 n2 d2 n3 d3 n4 d4 : Int} {p1 p2 p3 p4 : Option Addr} {lo hi lo2 hi2 : Rat} {k : Nat} [j1 : CF w (.agg #[.int .i64 n1, .int .i64 d1, .pointer p1]) lo k] [j2 : CF w (.agg #[.int .i64 n2, .int .i64 d2, .pointer p2]) hi k] [j3 : CF w (.agg #[.int .i64 n3, .int .i64 d3, .pointer p3]) lo2 k] [j4 : CF w (.agg #[.int .i64 n4, .int .i64 d4, .pointer p4]) hi2 k] (b : k ≤ 100000) (hv : Hid (decide (rmax lo lo2 < rmin hi hi2) = v)) :
    Calls Tryz.prog 169 #[.agg #[.int .i64 n1, .int .i64 d1, .pointer p1, .int .i64 n2, .int .i64 d2, .pointer p2, .bool false, .bool false], .agg #[.int .i64 n3, .int .i64 d3, .pointer p3, .int .i64 n4, .int .i64 d4, .pointer p4, .bool false, .bool false]] w (IvBRet w (rmax lo lo2) (rmin hi hi2) v k) := by
  have hv2 : Hid (decide (rmin hi hi2 ≤ rmax lo lo2) = !v) := Lib.hid (by
    rw [← hv.out]
    by_cases h : rmax lo lo2 < rmin hi hi2
    · rw [decide_eq_true h, decide_eq_false (by grind)]; rfl
    · rw [decide_eq_false h, decide_eq_true (by grind)]; rfl)
  go_enter Tryz.func169, Tryz.ntmps169
  go_upto_region 10 with (first
    | (go_at_call 232; (with_reducible refine Calls.cF (maxC (by omega)) ?_); intros)
    | (go_at_call 233; (with_reducible refine Calls.cF (minC (by omega)) ?_); intros))
  refine rgn [w.heap.size + 1 + 1] [] fun hHeld => ?_
  refine tk 0 hHeld ?_
  refine tk 1 hHeld ?_
  refine st 2 fun K hK => ?_
  go_simp
  (with_reducible refine Calls.cE (ivEmptyV (by omega) hv2) ?_); intros
  refine hd hK ?_
  clear hHeld hK K
  intro hHeld
  refine tk 3 hHeld ?_
  refine st 4 fun K hK => ?_
  go_simp
  refine hd hK ?_
  clear hHeld hK K
  intro hHeld
  refine tk 5 hHeld ?_
  refine dn ?_
  clear hHeld
  go_wp2_with fail
  refine ret_bt rfl Tryz.underlying180 rfl (by kernel_rfl) rfl rfl rfl ?_
  simp
  exact IvBRet.fin rfl (by omega) rfl (by omega)
theorem ontoS {w : World} {nx1 dx1 ny1 dy1 nz1 dz1 nu1 du1 nv1 dv1 nx2 dx2 ny2 dy2 nz2 dz2 : Int} {px1 py1 pz1 pu1 pv1 px2 py2 pz2 : Option Addr} {f g : FG} {k : Nat} [jx1 : CF w (.agg #[.int .i64 nx1, .int .i64 dx1, .pointer px1]) (g.a : Rat) k] [jy1 : CF w (.agg #[.int .i64 ny1, .int .i64 dy1, .pointer py1]) (g.b : Rat) k] [jz1 : CF w (.agg #[.int .i64 nz1, .int .i64 dz1, .pointer pz1]) (g.c : Rat) k] [ju1 : CF w (.agg #[.int .i64 nu1, .int .i64 du1, .pointer pu1]) g.lo k] [jv1 : CF w (.agg #[.int .i64 nv1, .int .i64 dv1, .pointer pv1]) g.hi k] [jx2 : CF w (.agg #[.int .i64 nx2, .int .i64 dx2, .pointer px2]) (f.a : Rat) k] [jy2 : CF w (.agg #[.int .i64 ny2, .int .i64 dy2, .pointer py2]) (f.b : Rat) k] [jz2 : CF w (.agg #[.int .i64 nz2, .int .i64 dz2, .pointer pz2]) (f.c : Rat) k] (b : k ≤ 20000 ∧ 2 ≤ k) (hS : SmL f g) :
    Calls Tryz.prog 163 #[.agg #[.int .i64 nx1, .int .i64 dx1, .pointer px1, .int .i64 ny1, .int .i64 dy1, .pointer py1, .int .i64 nz1, .int .i64 dz1, .pointer pz1, .int .i64 nu1, .int .i64 du1, .pointer pu1, .int .i64 nv1, .int .i64 dv1, .pointer pv1, .bool false, .bool false], .agg #[.int .i64 nx2, .int .i64 dx2, .pointer px2, .int .i64 ny2, .int .i64 dy2, .pointer py2, .int .i64 nz2, .int .i64 dz2, .pointer pz2]] w (IvBRet w g.lo g.hi true k) := by
  have E1 : Hid (decide ((g.a : Rat) = f.a ∧ (g.b : Rat) = f.b ∧ (g.c : Rat) = f.c) = true) := Lib.hid (by
    obtain ⟨h1, h2, h3⟩ := hS; exact decide_eq_true ⟨by rw [h1], by rw [h2], by rw [h3]⟩)
  clear hS
  go_enter Tryz.func163, Tryz.ntmps163
  go_wp2_with (first
    | (go_at_call 221; (with_reducible refine Calls.cE (lnEqualV (by omega) E1) ?_); intros))
  refine ret_bt rfl Tryz.underlying180 rfl (by kernel_rfl) rfl rfl rfl ?_
  exact IvBRet.fin rfl (by omega) rfl (by omega)
theorem ontoO {w : World} {nx1 dx1 ny1 dy1 nz1 dz1 nu1 du1 nv1 dv1 nx2 dx2 ny2 dy2 nz2 dz2 : Int} {px1 py1 pz1 pu1 pv1 px2 py2 pz2 : Option Addr} {f g : FG} {k : Nat} [jx1 : CF w (.agg #[.int .i64 nx1, .int .i64 dx1, .pointer px1]) (g.a : Rat) k] [jy1 : CF w (.agg #[.int .i64 ny1, .int .i64 dy1, .pointer py1]) (g.b : Rat) k] [jz1 : CF w (.agg #[.int .i64 nz1, .int .i64 dz1, .pointer pz1]) (g.c : Rat) k] [ju1 : CF w (.agg #[.int .i64 nu1, .int .i64 du1, .pointer pu1]) g.lo k] [jv1 : CF w (.agg #[.int .i64 nv1, .int .i64 dv1, .pointer pv1]) g.hi k] [jx2 : CF w (.agg #[.int .i64 nx2, .int .i64 dx2, .pointer px2]) (f.a : Rat) k] [jy2 : CF w (.agg #[.int .i64 ny2, .int .i64 dy2, .pointer py2]) (f.b : Rat) k] [jz2 : CF w (.agg #[.int .i64 nz2, .int .i64 dz2, .pointer pz2]) (f.c : Rat) k] (b : k ≤ 20000 ∧ 2 ≤ k) (hO : OpL f g) (hf : FGV f) :
    Calls Tryz.prog 163 #[.agg #[.int .i64 nx1, .int .i64 dx1, .pointer px1, .int .i64 ny1, .int .i64 dy1, .pointer py1, .int .i64 nz1, .int .i64 dz1, .pointer pz1, .int .i64 nu1, .int .i64 du1, .pointer pu1, .int .i64 nv1, .int .i64 dv1, .pointer pv1, .bool false, .bool false], .agg #[.int .i64 nx2, .int .i64 dx2, .pointer px2, .int .i64 ny2, .int .i64 dy2, .pointer py2, .int .i64 nz2, .int .i64 dz2, .pointer pz2]] w (IvBRet w (-g.hi) (-g.lo) true k) := by
  have E1 : Hid (decide ((g.a : Rat) = f.a ∧ (g.b : Rat) = f.b ∧ (g.c : Rat) = f.c) = false) := Lib.hid (by
    refine decide_eq_false fun h => not_sm_op hf ⟨?_, ?_, ?_⟩ hO
    · exact (Rat.intCast_inj.1 h.1).symm
    · exact (Rat.intCast_inj.1 h.2.1).symm
    · exact (Rat.intCast_inj.1 h.2.2).symm)
  have E2 : Hid (decide ((g.a : Rat) = -f.a ∧ (g.b : Rat) = -f.b ∧ (g.c : Rat) = -f.c) = true) := Lib.hid (by
    obtain ⟨h1, h2, h3⟩ := hO; exact decide_eq_true ⟨by rw [h1, Rat.intCast_neg]; grind, by rw [h2, Rat.intCast_neg]; grind, by rw [h3, Rat.intCast_neg]; grind⟩)
  clear hO
  go_enter Tryz.func163, Tryz.ntmps163
  go_upto_region 3 with (first
    | (go_at_call 221; (with_reducible refine Calls.cE (lnEqualV (by omega) E1) ?_); intros))
  refine rgn [] [] fun hHeld => ?_
  refine tk 0 hHeld ?_
  refine tk 1 hHeld ?_
  refine tk 2 hHeld ?_
  refine st 3 fun K hK => ?_
  go_simp
  (with_reducible refine Calls.cLF (lnReverseC (by omega)) ?_); intros
  refine hd hK ?_
  clear hHeld hK K
  intro hHeld
  refine st 4 fun K hK => ?_
  go_simp
  (with_reducible refine Calls.cE (lnEqualV (by omega) E2) ?_); intros
  refine hd hK ?_
  clear hHeld hK K
  intro hHeld
  refine tk 5 hHeld ?_
  refine dn ?_
  clear hHeld
  go_wp2_with (first | (go_at_call 223; (with_reducible refine Calls.cIvF (ivNegC (by omega)) ?_); intros))
  refine ret_bt rfl Tryz.underlying180 rfl (by kernel_rfl) rfl rfl rfl ?_
  exact IvBRet.fin rfl (by omega) rfl (by omega)
theorem ontoN {w : World} {nx1 dx1 ny1 dy1 nz1 dz1 nu1 du1 nv1 dv1 nx2 dx2 ny2 dy2 nz2 dz2 : Int} {px1 py1 pz1 pu1 pv1 px2 py2 pz2 : Option Addr} {f g : FG} {k : Nat} [jx1 : CF w (.agg #[.int .i64 nx1, .int .i64 dx1, .pointer px1]) (g.a : Rat) k] [jy1 : CF w (.agg #[.int .i64 ny1, .int .i64 dy1, .pointer py1]) (g.b : Rat) k] [jz1 : CF w (.agg #[.int .i64 nz1, .int .i64 dz1, .pointer pz1]) (g.c : Rat) k] [ju1 : CF w (.agg #[.int .i64 nu1, .int .i64 du1, .pointer pu1]) g.lo k] [jv1 : CF w (.agg #[.int .i64 nv1, .int .i64 dv1, .pointer pv1]) g.hi k] [jx2 : CF w (.agg #[.int .i64 nx2, .int .i64 dx2, .pointer px2]) (f.a : Rat) k] [jy2 : CF w (.agg #[.int .i64 ny2, .int .i64 dy2, .pointer py2]) (f.b : Rat) k] [jz2 : CF w (.agg #[.int .i64 nz2, .int .i64 dz2, .pointer pz2]) (f.c : Rat) k] (b : k ≤ 20000 ∧ 2 ≤ k) (hS : ¬ SmL f g) (hO : ¬ OpL f g) :
    Calls Tryz.prog 163 #[.agg #[.int .i64 nx1, .int .i64 dx1, .pointer px1, .int .i64 ny1, .int .i64 dy1, .pointer py1, .int .i64 nz1, .int .i64 dz1, .pointer pz1, .int .i64 nu1, .int .i64 du1, .pointer pu1, .int .i64 nv1, .int .i64 dv1, .pointer pv1, .bool false, .bool false], .agg #[.int .i64 nx2, .int .i64 dx2, .pointer px2, .int .i64 ny2, .int .i64 dy2, .pointer py2, .int .i64 nz2, .int .i64 dz2, .pointer pz2]] w (IvBRet w 0 0 false k) := by
  have E1 : Hid (decide ((g.a : Rat) = f.a ∧ (g.b : Rat) = f.b ∧ (g.c : Rat) = f.c) = false) := Lib.hid (by
    exact decide_eq_false fun h => hS ⟨(Rat.intCast_inj.1 h.1).symm, (Rat.intCast_inj.1 h.2.1).symm, (Rat.intCast_inj.1 h.2.2).symm⟩)
  have E2 : Hid (decide ((g.a : Rat) = -f.a ∧ (g.b : Rat) = -f.b ∧ (g.c : Rat) = -f.c) = false) := Lib.hid (by
    refine decide_eq_false fun h => hO ?_
    rw [← Rat.intCast_neg, ← Rat.intCast_neg, ← Rat.intCast_neg, Rat.intCast_inj, Rat.intCast_inj, Rat.intCast_inj] at h
    exact ⟨by omega, by omega, by omega⟩)
  clear hS hO
  go_enter Tryz.func163, Tryz.ntmps163
  go_upto_region 3 with (first
    | (go_at_call 221; (with_reducible refine Calls.cE (lnEqualV (by omega) E1) ?_); intros))
  refine rgn [] [] fun hHeld => ?_
  refine tk 0 hHeld ?_
  refine tk 1 hHeld ?_
  refine tk 2 hHeld ?_
  refine st 3 fun K hK => ?_
  go_simp
  (with_reducible refine Calls.cLF (lnReverseC (by omega)) ?_); intros
  refine hd hK ?_
  clear hHeld hK K
  intro hHeld
  refine st 4 fun K hK => ?_
  go_simp
  (with_reducible refine Calls.cE (lnEqualV (by omega) E2) ?_); intros
  refine hd hK ?_
  clear hHeld hK K
  intro hHeld
  refine tk 5 hHeld ?_
  refine dn ?_
  clear hHeld
  go_wp2_with fail
  refine ret_bt rfl Tryz.underlying180 rfl (by kernel_rfl) rfl rfl rfl ?_
  exact IvBRet.fin rfl (by omega) rfl (by omega)
end Go.Proofs.YtdlnoeegboapkaaGreatDoor

/- A load of many cells as one step of a walk. -/
namespace Go.Proofs.YtdlnoeegboapkaaGreatDoor
open Go.RowKit
set_option linter.unusedVariables false

theorem step_ld {W : World} {ops : Array Oper} {rest : List Oper} {o : Oper} {a : Act} {Q : Exit → Act → World → Prop} {t : TypeId} {x : Operand} {ad : Addr} {v : Value} (hg : o.guard = none) (hop : o.op = .load t x)
    (hx : a.eval x = .pointer (some ad)) (hl : (loadVar t ad).run Tryz.prog W = .ok v W) (hK : wpList Tryz.prog ops Q rest (a.put o.dst v) W) : wpList Tryz.prog ops Q (o :: rest) a W := by
  refine wpList_plain hg fun K hKK => ?_
  unfold Oper.wp execOp
  simp [hop, hx, Instr.loadAt, Instr.sureAddr, hl, Result.andThen]
  exact hKK _ _ hK
theorem load_box {P : Program} {W : World} {b : Nat} {ty t : TypeId} {d : TypeDesc} {l : List Value} [hb : Bx W b t l]
    (hu : P.underlying ty = some d) (hd : (match d with | .struct _ | .array _ _ => true | _ => false) = true) (hi : (P.info? ty).map (·.size) = some l.length) :
    (loadVar ty ⟨b, 0, none⟩).run P W = .ok (.agg l.toArray) W := loadVar_at W b ty l d hu hd hi (fun j hj => by rw [cell_bx, List.getElem?_eq_getElem hj])
end Go.Proofs.YtdlnoeegboapkaaGreatDoor
