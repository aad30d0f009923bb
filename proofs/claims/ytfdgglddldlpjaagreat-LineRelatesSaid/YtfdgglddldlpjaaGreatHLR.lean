/-
  Texts of this claim, joined: Ln10, Ln11, Ln9, Ln12, LawLR.
-/
import Derived.Test.YtfdgglddldlpjaaGreatGS
/- The common point of two lines: packages geo and line. printed by a small program (mkln10.py). -/
namespace Go.Proofs.YtfdgglddldlpjaaGreat
open Go.RowKit
set_option maxRecDepth 100000
set_option maxHeartbeats 40000000
set_option synthInstance.maxSize 100000
set_option synthInstance.maxHeartbeats 1000000
set_option linter.unusedVariables false
set_option linter.unusedSimpArgs false

theorem gMeetOk {w : World} {n1x d1x n1y d1y n1z d1z n2x d2x n2y d2y n2z d2z : Int} {p1x p1y p1z p2x p2y p2z : Option Addr} {la lb lc ma mb mc : Rat} {k1x k1y k1z k2x k2y k2z : Nat} [h1x : CF w (.agg #[.int .i64 n1x, .int .i64 d1x, .pointer p1x]) la k1x] [h1y : CF w (.agg #[.int .i64 n1y, .int .i64 d1y, .pointer p1y]) lb k1y] [h1z : CF w (.agg #[.int .i64 n1z, .int .i64 d1z, .pointer p1z]) lc k1z] [h2x : CF w (.agg #[.int .i64 n2x, .int .i64 d2x, .pointer p2x]) ma k2x] [h2y : CF w (.agg #[.int .i64 n2y, .int .i64 d2y, .pointer p2y]) mb k2y] [h2z : CF w (.agg #[.int .i64 n2z, .int .i64 d2z, .pointer p2z]) mc k2z] (b : k1x ≤ 8000 ∧ k1y ≤ 8000 ∧ k1z ≤ 8000 ∧ k2x ≤ 8000 ∧ k2y ≤ 8000 ∧ k2z ≤ 8000) (HZ : Hid (decide (la * mb - lb * ma = 0) = false)) :
    Calls Tryz.prog 71 #[.agg #[.int .i64 n1x, .int .i64 d1x, .pointer p1x, .int .i64 n1y, .int .i64 d1y, .pointer p1y, .int .i64 n1z, .int .i64 d1z, .pointer p1z], .agg #[.int .i64 n2x, .int .i64 d2x, .pointer p2x, .int .i64 n2y, .int .i64 d2y, .pointer p2y, .int .i64 n2z, .int .i64 d2z, .pointer p2z]] w (PFBRet w ((lb * mc - lc * mb) / (la * mb - lb * ma)) ((lc * ma - la * mc) / (la * mb - lb * ma)) true (3 * (k1x + k1y + k1z + k2x + k2y + k2z) + 100)) := by
  go_enter Tryz.func71, Tryz.ntmps71
  go_upto_region 1 with fail
  go_cut [6] from 9 to 13 (fun t wx => ∃ (b6 : Nat) (n6 d6 : Int) (p6 : Option Addr), t = .pointer (some ⟨b6, 0, none⟩) ∧ Bx wx b6 92 [.int .i64 n6, .int .i64 d6, .pointer p6] ∧ CF wx (.agg #[.int .i64 n6, .int .i64 d6, .pointer p6]) (la * mb - lb * ma) (2 * (k1x + k1y + k1z + k2x + k2y + k2z) + 20) ∧ Bx wx w.heap.size 94 [.int .i64 n1x, .int .i64 d1x, .pointer p1x, .int .i64 n1y, .int .i64 d1y, .pointer p1y, .int .i64 n1z, .int .i64 d1z, .pointer p1z] ∧ Bx wx (w.heap.size + 1) 94 [.int .i64 n2x, .int .i64 d2x, .pointer p2x, .int .i64 n2y, .int .i64 d2y, .pointer p2y, .int .i64 n2z, .int .i64 d2z, .pointer p2z] ∧ Bx wx (w.heap.size + 1 + 1) 108 [.int .i64 0, .int .i64 0, .pointer none, .int .i64 0, .int .i64 0, .pointer none] ∧ CF wx (.agg #[.int .i64 n1x, .int .i64 d1x, .pointer p1x]) la k1x ∧ CF wx (.agg #[.int .i64 n1y, .int .i64 d1y, .pointer p1y]) lb k1y ∧ CF wx (.agg #[.int .i64 n1z, .int .i64 d1z, .pointer p1z]) lc k1z ∧ CF wx (.agg #[.int .i64 n2x, .int .i64 d2x, .pointer p2x]) ma k2x ∧ CF wx (.agg #[.int .i64 n2y, .int .i64 d2y, .pointer p2y]) mb k2y ∧ CF wx (.agg #[.int .i64 n2z, .int .i64 d2z, .pointer p2z]) mc k2z ∧ Kp w wx)
  case first =>
    refine rgn [] [] fun hHeld => ?_
    refine tk 0 hHeld ?_
    refine tk 2 hHeld ?_
    refine wpAnyT_ready (rs := [1, 5]) (by kernel_rfl) (by simp) ?_
    refine AllT.cons (by simp; rfl) (fun K hK => ?_) (AllT.cons (by simp; rfl) (fun K hK => ?_) AllT.nil)
    go_simp
    (with_reducible refine Calls.cPF (lnNormalC (by omega)) ?_); intros
    refine hd hK ?_
    clear hHeld hK K
    intro hHeld
    refine wpAnyT_ready (rs := [3, 5]) (by kernel_rfl) (by simp) ?_
    refine AllT.cons (by simp; rfl) (fun K hK => ?_) (AllT.cons (by simp; rfl) (fun K hK => ?_) AllT.nil)
    go_simp
    (with_reducible refine Calls.cPF (lnNormalC (by omega)) ?_); intros
    refine hd hK ?_
    clear hHeld hK K
    intro hHeld
    refine wpAnyT_ready (rs := [4, 5]) (by kernel_rfl) (by simp) ?_
    refine AllT.cons (by simp; rfl) (fun K hK => ?_) (AllT.cons (by simp; rfl) (fun K hK => ?_) AllT.nil)
    go_simp
    (with_reducible refine Calls.cF (ptCrossC (by omega)) ?_); intros
    refine hd hK ?_
    clear hHeld hK K
    intro hHeld
    refine st 5 fun K hK => ?_
    go_simp
    refine hd hK ?_
    clear hHeld hK K
    intro hHeld
    refine st 6 fun K hK => ?_
    go_simp
    refine hd hK ?_
    clear hHeld hK K
    intro hHeld
    refine dn ?_
    clear hHeld
    go_wp2_with fail
    go_meet
    exact ⟨_, _, _, _, rfl, inferInstance, CF.cast inferInstance rfl (by omega), inferInstance, inferInstance, inferInstance, inferInstance, inferInstance, inferInstance, inferInstance, inferInstance, inferInstance, inferInstance⟩
    go_simp
    refine hd hK ?_
    clear hHeld hK K
    intro hHeld
    refine st 4 fun K hK => ?_
    go_simp
    (with_reducible refine Calls.cF (ptCrossC (by omega)) ?_); intros
    refine hd hK ?_
    clear hHeld hK K
    intro hHeld
    refine st 6 fun K hK => ?_
    go_simp
    refine hd hK ?_
    clear hHeld hK K
    intro hHeld
    refine dn ?_
    clear hHeld
    go_wp2_with fail
    go_meet
    exact ⟨_, _, _, _, rfl, inferInstance, CF.cast inferInstance rfl (by omega), inferInstance, inferInstance, inferInstance, inferInstance, inferInstance, inferInstance, inferInstance, inferInstance, inferInstance, inferInstance⟩
    go_simp
    refine hd hK ?_
    clear hHeld hK K
    intro hHeld
    refine st 3 fun K hK => ?_
    go_simp
    (with_reducible refine Calls.cPF (lnNormalC (by omega)) ?_); intros
    refine hd hK ?_
    clear hHeld hK K
    intro hHeld
    refine st 4 fun K hK => ?_
    go_simp
    (with_reducible refine Calls.cF (ptCrossC (by omega)) ?_); intros
    refine hd hK ?_
    clear hHeld hK K
    intro hHeld
    refine st 6 fun K hK => ?_
    go_simp
    refine hd hK ?_
    clear hHeld hK K
    intro hHeld
    refine dn ?_
    clear hHeld
    go_wp2_with fail
    go_meet
    exact ⟨_, _, _, _, rfl, inferInstance, CF.cast inferInstance rfl (by omega), inferInstance, inferInstance, inferInstance, inferInstance, inferInstance, inferInstance, inferInstance, inferInstance, inferInstance, inferInstance⟩
    go_simp
    refine hd hK ?_
    clear hHeld hK K
    intro hHeld
    refine st 1 fun K hK => ?_
    go_simp
    (with_reducible refine Calls.cPF (lnNormalC (by omega)) ?_); intros
    refine hd hK ?_
    clear hHeld hK K
    intro hHeld
    refine st 3 fun K hK => ?_
    go_simp
    (with_reducible refine Calls.cPF (lnNormalC (by omega)) ?_); intros
    refine hd hK ?_
    clear hHeld hK K
    intro hHeld
    refine st 4 fun K hK => ?_
    go_simp
    (with_reducible refine Calls.cF (ptCrossC (by omega)) ?_); intros
    refine hd hK ?_
    clear hHeld hK K
    intro hHeld
    refine st 6 fun K hK => ?_
    go_simp
    refine hd hK ?_
    clear hHeld hK K
    intro hHeld
    refine dn ?_
    clear hHeld
    go_wp2_with fail
    go_meet
    exact ⟨_, _, _, _, rfl, inferInstance, CF.cast inferInstance rfl (by omega), inferInstance, inferInstance, inferInstance, inferInstance, inferInstance, inferInstance, inferInstance, inferInstance, inferInstance, inferInstance⟩
  case rest =>
   obtain ⟨b6, n6, d6, p6, rfl, i1, i2, i3, i4, i5, i6, i7, i8, i9, i10, i11, i12⟩ := hcut
   go_upto_region 4 with (first | (go_at_call 81; (with_reducible refine Calls.cE (rZeroV HZ) ?_); intros))
   go_cut [7] from 17 to 29 (fun t wx => ∃ (b7 : Nat) (n7 d7 : Int) (p7 : Option Addr), t = .pointer (some ⟨b7, 0, none⟩) ∧ Bx wx b7 92 [.int .i64 n7, .int .i64 d7, .pointer p7] ∧ CF wx (.agg #[.int .i64 n7, .int .i64 d7, .pointer p7]) ((lb * mc - lc * mb) / (la * mb - lb * ma)) (3 * (k1x + k1y + k1z + k2x + k2y + k2z) + 100) ∧ Kp wc wx)
   case first =>
    refine rgn [] [] fun hHeld => ?_
    refine tk 0 hHeld ?_
    refine tk 1 hHeld ?_
    refine tk 2 hHeld ?_
    refine tk 3 hHeld ?_
    refine tk 5 hHeld ?_
    refine tk 6 hHeld ?_
    refine tk 7 hHeld ?_
    refine tk 8 hHeld ?_
    refine tk 11 hHeld ?_
    refine wpAnyT_ready (rs := [4, 13]) (by kernel_rfl) (by simp) ?_
    refine AllT.cons (by simp; rfl) (fun K hK => ?_) (AllT.cons (by simp; rfl) (fun K hK => ?_) AllT.nil)
    go_simp
    (with_reducible refine Calls.cF (rMulC (by omega)) ?_); intros
    refine hd hK ?_
    clear hHeld hK K
    intro hHeld
    refine wpAnyT_ready (rs := [9, 13]) (by kernel_rfl) (by simp) ?_
    refine AllT.cons (by simp; rfl) (fun K hK => ?_) (AllT.cons (by simp; rfl) (fun K hK => ?_) AllT.nil)
    go_simp
    (with_reducible refine Calls.cF (rMulC (by omega)) ?_); intros
    refine hd hK ?_
    clear hHeld hK K
    intro hHeld
    refine wpAnyT_ready (rs := [10, 13]) (by kernel_rfl) (by simp) ?_
    refine AllT.cons (by simp; rfl) (fun K hK => ?_) (AllT.cons (by simp; rfl) (fun K hK => ?_) AllT.nil)
    go_simp
    (with_reducible refine Calls.cF (rSubC (by omega)) ?_); intros
    refine hd hK ?_
    clear hHeld hK K
    intro hHeld
    refine wpAnyT_ready (rs := [12, 13]) (by kernel_rfl) (by simp) ?_
    refine AllT.cons (by simp; rfl) (fun K hK => ?_) (AllT.cons (by simp; rfl) (fun K hK => ?_) AllT.nil)
    go_simp
    (with_reducible refine Calls.cF (rQuoC (by omega)) ?_); intros
    refine hd hK ?_
    clear hHeld hK K
    intro hHeld
    refine st 13 fun K hK => ?_
    go_simp
    refine hd hK ?_
    clear hHeld hK K
    intro hHeld
    refine st 14 fun K hK => ?_
    go_simp
    refine hd hK ?_
    clear hHeld hK K
    intro hHeld
    refine dn ?_
    clear hHeld
    go_wp2_with fail
    go_meet
    exact ⟨_, _, _, _, rfl, inferInstance, CF.cast inferInstance rfl (by omega), inferInstance⟩
    go_simp
    refine hd hK ?_
    clear hHeld hK K
    intro hHeld
    refine st 12 fun K hK => ?_
    go_simp
    (with_reducible refine Calls.cF (rQuoC (by omega)) ?_); intros
    refine hd hK ?_
    clear hHeld hK K
    intro hHeld
    refine st 14 fun K hK => ?_
    go_simp
    refine hd hK ?_
    clear hHeld hK K
    intro hHeld
    refine dn ?_
    clear hHeld
    go_wp2_with fail
    go_meet
    exact ⟨_, _, _, _, rfl, inferInstance, CF.cast inferInstance rfl (by omega), inferInstance⟩
    go_simp
    refine hd hK ?_
    clear hHeld hK K
    intro hHeld
    refine st 10 fun K hK => ?_
    go_simp
    (with_reducible refine Calls.cF (rSubC (by omega)) ?_); intros
    refine hd hK ?_
    clear hHeld hK K
    intro hHeld
    refine st 12 fun K hK => ?_
    go_simp
    (with_reducible refine Calls.cF (rQuoC (by omega)) ?_); intros
    refine hd hK ?_
    clear hHeld hK K
    intro hHeld
    refine st 14 fun K hK => ?_
    go_simp
    refine hd hK ?_
    clear hHeld hK K
    intro hHeld
    refine dn ?_
    clear hHeld
    go_wp2_with fail
    go_meet
    exact ⟨_, _, _, _, rfl, inferInstance, CF.cast inferInstance rfl (by omega), inferInstance⟩
    go_simp
    refine hd hK ?_
    clear hHeld hK K
    intro hHeld
    refine st 9 fun K hK => ?_
    go_simp
    (with_reducible refine Calls.cF (rMulC (by omega)) ?_); intros
    refine hd hK ?_
    clear hHeld hK K
    intro hHeld
    refine st 10 fun K hK => ?_
    go_simp
    (with_reducible refine Calls.cF (rSubC (by omega)) ?_); intros
    refine hd hK ?_
    clear hHeld hK K
    intro hHeld
    refine st 12 fun K hK => ?_
    go_simp
    (with_reducible refine Calls.cF (rQuoC (by omega)) ?_); intros
    refine hd hK ?_
    clear hHeld hK K
    intro hHeld
    refine st 14 fun K hK => ?_
    go_simp
    refine hd hK ?_
    clear hHeld hK K
    intro hHeld
    refine dn ?_
    clear hHeld
    go_wp2_with fail
    go_meet
    exact ⟨_, _, _, _, rfl, inferInstance, CF.cast inferInstance rfl (by omega), inferInstance⟩
    go_simp
    refine hd hK ?_
    clear hHeld hK K
    intro hHeld
    refine st 4 fun K hK => ?_
    go_simp
    (with_reducible refine Calls.cF (rMulC (by omega)) ?_); intros
    refine hd hK ?_
    clear hHeld hK K
    intro hHeld
    refine st 9 fun K hK => ?_
    go_simp
    (with_reducible refine Calls.cF (rMulC (by omega)) ?_); intros
    refine hd hK ?_
    clear hHeld hK K
    intro hHeld
    refine st 10 fun K hK => ?_
    go_simp
    (with_reducible refine Calls.cF (rSubC (by omega)) ?_); intros
    refine hd hK ?_
    clear hHeld hK K
    intro hHeld
    refine st 12 fun K hK => ?_
    go_simp
    (with_reducible refine Calls.cF (rQuoC (by omega)) ?_); intros
    refine hd hK ?_
    clear hHeld hK K
    intro hHeld
    refine st 14 fun K hK => ?_
    go_simp
    refine hd hK ?_
    clear hHeld hK K
    intro hHeld
    refine dn ?_
    clear hHeld
    go_wp2_with fail
    go_meet
    exact ⟨_, _, _, _, rfl, inferInstance, CF.cast inferInstance rfl (by omega), inferInstance⟩
   case rest =>
    obtain ⟨b7, n7, d7, p7, rfl, j1, j2, ⟨j3⟩⟩ := hcut
    have j4 := Kp1.mk j3
    have j5 : Kp w wc := inferInstance
    go_upto_region 5 with fail
    go_cut [8] from 30 to 42 (fun t wx => ∃ (b8 : Nat) (n8 d8 : Int) (p8 : Option Addr), t = .pointer (some ⟨b8, 0, none⟩) ∧ Bx wx b8 92 [.int .i64 n8, .int .i64 d8, .pointer p8] ∧ CF wx (.agg #[.int .i64 n8, .int .i64 d8, .pointer p8]) ((lc * ma - la * mc) / (la * mb - lb * ma)) (3 * (k1x + k1y + k1z + k2x + k2y + k2z) + 100) ∧ Kp wc wx)
    case first =>
     refine rgn [] [] fun hHeld => ?_
     refine tk 0 hHeld ?_
     refine tk 1 hHeld ?_
     refine tk 2 hHeld ?_
     refine tk 3 hHeld ?_
     refine tk 5 hHeld ?_
     refine tk 6 hHeld ?_
     refine tk 7 hHeld ?_
     refine tk 8 hHeld ?_
     refine tk 11 hHeld ?_
     refine wpAnyT_ready (rs := [4, 13]) (by kernel_rfl) (by simp) ?_
     refine AllT.cons (by simp; rfl) (fun K hK => ?_) (AllT.cons (by simp; rfl) (fun K hK => ?_) AllT.nil)
     go_simp
     (with_reducible refine Calls.cF (rMulC (by omega)) ?_); intros
     refine hd hK ?_
     clear hHeld hK K
     intro hHeld
     refine wpAnyT_ready (rs := [9, 13]) (by kernel_rfl) (by simp) ?_
     refine AllT.cons (by simp; rfl) (fun K hK => ?_) (AllT.cons (by simp; rfl) (fun K hK => ?_) AllT.nil)
     go_simp
     (with_reducible refine Calls.cF (rMulC (by omega)) ?_); intros
     refine hd hK ?_
     clear hHeld hK K
     intro hHeld
     refine wpAnyT_ready (rs := [10, 13]) (by kernel_rfl) (by simp) ?_
     refine AllT.cons (by simp; rfl) (fun K hK => ?_) (AllT.cons (by simp; rfl) (fun K hK => ?_) AllT.nil)
     go_simp
     (with_reducible refine Calls.cF (rSubC (by omega)) ?_); intros
     refine hd hK ?_
     clear hHeld hK K
     intro hHeld
     refine wpAnyT_ready (rs := [12, 13]) (by kernel_rfl) (by simp) ?_
     refine AllT.cons (by simp; rfl) (fun K hK => ?_) (AllT.cons (by simp; rfl) (fun K hK => ?_) AllT.nil)
     go_simp
     (with_reducible refine Calls.cF (rQuoC (by omega)) ?_); intros
     refine hd hK ?_
     clear hHeld hK K
     intro hHeld
     refine st 13 fun K hK => ?_
     go_simp
     refine hd hK ?_
     clear hHeld hK K
     intro hHeld
     refine st 14 fun K hK => ?_
     go_simp
     refine hd hK ?_
     clear hHeld hK K
     intro hHeld
     refine dn ?_
     clear hHeld
     go_wp2_with fail
     go_meet
     exact ⟨_, _, _, _, rfl, inferInstance, CF.cast inferInstance rfl (by omega), inferInstance⟩
     go_simp
     refine hd hK ?_
     clear hHeld hK K
     intro hHeld
     refine st 12 fun K hK => ?_
     go_simp
     (with_reducible refine Calls.cF (rQuoC (by omega)) ?_); intros
     refine hd hK ?_
     clear hHeld hK K
     intro hHeld
     refine st 14 fun K hK => ?_
     go_simp
     refine hd hK ?_
     clear hHeld hK K
     intro hHeld
     refine dn ?_
     clear hHeld
     go_wp2_with fail
     go_meet
     exact ⟨_, _, _, _, rfl, inferInstance, CF.cast inferInstance rfl (by omega), inferInstance⟩
     go_simp
     refine hd hK ?_
     clear hHeld hK K
     intro hHeld
     refine st 10 fun K hK => ?_
     go_simp
     (with_reducible refine Calls.cF (rSubC (by omega)) ?_); intros
     refine hd hK ?_
     clear hHeld hK K
     intro hHeld
     refine st 12 fun K hK => ?_
     go_simp
     (with_reducible refine Calls.cF (rQuoC (by omega)) ?_); intros
     refine hd hK ?_
     clear hHeld hK K
     intro hHeld
     refine st 14 fun K hK => ?_
     go_simp
     refine hd hK ?_
     clear hHeld hK K
     intro hHeld
     refine dn ?_
     clear hHeld
     go_wp2_with fail
     go_meet
     exact ⟨_, _, _, _, rfl, inferInstance, CF.cast inferInstance rfl (by omega), inferInstance⟩
     go_simp
     refine hd hK ?_
     clear hHeld hK K
     intro hHeld
     refine st 9 fun K hK => ?_
     go_simp
     (with_reducible refine Calls.cF (rMulC (by omega)) ?_); intros
     refine hd hK ?_
     clear hHeld hK K
     intro hHeld
     refine st 10 fun K hK => ?_
     go_simp
     (with_reducible refine Calls.cF (rSubC (by omega)) ?_); intros
     refine hd hK ?_
     clear hHeld hK K
     intro hHeld
     refine st 12 fun K hK => ?_
     go_simp
     (with_reducible refine Calls.cF (rQuoC (by omega)) ?_); intros
     refine hd hK ?_
     clear hHeld hK K
     intro hHeld
     refine st 14 fun K hK => ?_
     go_simp
     refine hd hK ?_
     clear hHeld hK K
     intro hHeld
     refine dn ?_
     clear hHeld
     go_wp2_with fail
     go_meet
     exact ⟨_, _, _, _, rfl, inferInstance, CF.cast inferInstance rfl (by omega), inferInstance⟩
     go_simp
     refine hd hK ?_
     clear hHeld hK K
     intro hHeld
     refine st 4 fun K hK => ?_
     go_simp
     (with_reducible refine Calls.cF (rMulC (by omega)) ?_); intros
     refine hd hK ?_
     clear hHeld hK K
     intro hHeld
     refine st 9 fun K hK => ?_
     go_simp
     (with_reducible refine Calls.cF (rMulC (by omega)) ?_); intros
     refine hd hK ?_
     clear hHeld hK K
     intro hHeld
     refine st 10 fun K hK => ?_
     go_simp
     (with_reducible refine Calls.cF (rSubC (by omega)) ?_); intros
     refine hd hK ?_
     clear hHeld hK K
     intro hHeld
     refine st 12 fun K hK => ?_
     go_simp
     (with_reducible refine Calls.cF (rQuoC (by omega)) ?_); intros
     refine hd hK ?_
     clear hHeld hK K
     intro hHeld
     refine st 14 fun K hK => ?_
     go_simp
     refine hd hK ?_
     clear hHeld hK K
     intro hHeld
     refine dn ?_
     clear hHeld
     go_wp2_with fail
     go_meet
     exact ⟨_, _, _, _, rfl, inferInstance, CF.cast inferInstance rfl (by omega), inferInstance⟩
    case rest =>
     obtain ⟨b8, n8, d8, p8, rfl, l1, l2, ⟨l3⟩⟩ := hcut
     have l4 := Kp1.mk l3
     have l5 : Kp w wc := inferInstance
     go_wp2_with fail
     refine ret_bt rfl Tryz.underlying108 rfl (by kernel_rfl) rfl rfl rfl ?_
     exact PFBRet.fin rfl (by omega) rfl (by omega)

theorem gMeetNo {w : World} {n1x d1x n1y d1y n1z d1z n2x d2x n2y d2y n2z d2z : Int} {p1x p1y p1z p2x p2y p2z : Option Addr} {la lb lc ma mb mc : Rat} {k1x k1y k1z k2x k2y k2z : Nat} [h1x : CF w (.agg #[.int .i64 n1x, .int .i64 d1x, .pointer p1x]) la k1x] [h1y : CF w (.agg #[.int .i64 n1y, .int .i64 d1y, .pointer p1y]) lb k1y] [h1z : CF w (.agg #[.int .i64 n1z, .int .i64 d1z, .pointer p1z]) lc k1z] [h2x : CF w (.agg #[.int .i64 n2x, .int .i64 d2x, .pointer p2x]) ma k2x] [h2y : CF w (.agg #[.int .i64 n2y, .int .i64 d2y, .pointer p2y]) mb k2y] [h2z : CF w (.agg #[.int .i64 n2z, .int .i64 d2z, .pointer p2z]) mc k2z] (b : k1x ≤ 8000 ∧ k1y ≤ 8000 ∧ k1z ≤ 8000 ∧ k2x ≤ 8000 ∧ k2y ≤ 8000 ∧ k2z ≤ 8000) (HZ : Hid (decide (la * mb - lb * ma = 0) = true)) :
    Calls Tryz.prog 71 #[.agg #[.int .i64 n1x, .int .i64 d1x, .pointer p1x, .int .i64 n1y, .int .i64 d1y, .pointer p1y, .int .i64 n1z, .int .i64 d1z, .pointer p1z], .agg #[.int .i64 n2x, .int .i64 d2x, .pointer p2x, .int .i64 n2y, .int .i64 d2y, .pointer p2y, .int .i64 n2z, .int .i64 d2z, .pointer p2z]] w (PFBRet w 0 0 false (3 * (k1x + k1y + k1z + k2x + k2y + k2z) + 100)) := by
  go_enter Tryz.func71, Tryz.ntmps71
  go_upto_region 1 with fail
  go_cut [6] from 9 to 13 (fun t wx => ∃ (b6 : Nat) (n6 d6 : Int) (p6 : Option Addr), t = .pointer (some ⟨b6, 0, none⟩) ∧ Bx wx b6 92 [.int .i64 n6, .int .i64 d6, .pointer p6] ∧ CF wx (.agg #[.int .i64 n6, .int .i64 d6, .pointer p6]) (la * mb - lb * ma) (2 * (k1x + k1y + k1z + k2x + k2y + k2z) + 20) ∧ Bx wx w.heap.size 94 [.int .i64 n1x, .int .i64 d1x, .pointer p1x, .int .i64 n1y, .int .i64 d1y, .pointer p1y, .int .i64 n1z, .int .i64 d1z, .pointer p1z] ∧ Bx wx (w.heap.size + 1) 94 [.int .i64 n2x, .int .i64 d2x, .pointer p2x, .int .i64 n2y, .int .i64 d2y, .pointer p2y, .int .i64 n2z, .int .i64 d2z, .pointer p2z] ∧ Bx wx (w.heap.size + 1 + 1) 108 [.int .i64 0, .int .i64 0, .pointer none, .int .i64 0, .int .i64 0, .pointer none] ∧ CF wx (.agg #[.int .i64 n1x, .int .i64 d1x, .pointer p1x]) la k1x ∧ CF wx (.agg #[.int .i64 n1y, .int .i64 d1y, .pointer p1y]) lb k1y ∧ CF wx (.agg #[.int .i64 n1z, .int .i64 d1z, .pointer p1z]) lc k1z ∧ CF wx (.agg #[.int .i64 n2x, .int .i64 d2x, .pointer p2x]) ma k2x ∧ CF wx (.agg #[.int .i64 n2y, .int .i64 d2y, .pointer p2y]) mb k2y ∧ CF wx (.agg #[.int .i64 n2z, .int .i64 d2z, .pointer p2z]) mc k2z ∧ Kp w wx)
  case first =>
    refine rgn [] [] fun hHeld => ?_
    refine tk 0 hHeld ?_
    refine tk 2 hHeld ?_
    refine wpAnyT_ready (rs := [1, 5]) (by kernel_rfl) (by simp) ?_
    refine AllT.cons (by simp; rfl) (fun K hK => ?_) (AllT.cons (by simp; rfl) (fun K hK => ?_) AllT.nil)
    go_simp
    (with_reducible refine Calls.cPF (lnNormalC (by omega)) ?_); intros
    refine hd hK ?_
    clear hHeld hK K
    intro hHeld
    refine wpAnyT_ready (rs := [3, 5]) (by kernel_rfl) (by simp) ?_
    refine AllT.cons (by simp; rfl) (fun K hK => ?_) (AllT.cons (by simp; rfl) (fun K hK => ?_) AllT.nil)
    go_simp
    (with_reducible refine Calls.cPF (lnNormalC (by omega)) ?_); intros
    refine hd hK ?_
    clear hHeld hK K
    intro hHeld
    refine wpAnyT_ready (rs := [4, 5]) (by kernel_rfl) (by simp) ?_
    refine AllT.cons (by simp; rfl) (fun K hK => ?_) (AllT.cons (by simp; rfl) (fun K hK => ?_) AllT.nil)
    go_simp
    (with_reducible refine Calls.cF (ptCrossC (by omega)) ?_); intros
    refine hd hK ?_
    clear hHeld hK K
    intro hHeld
    refine st 5 fun K hK => ?_
    go_simp
    refine hd hK ?_
    clear hHeld hK K
    intro hHeld
    refine st 6 fun K hK => ?_
    go_simp
    refine hd hK ?_
    clear hHeld hK K
    intro hHeld
    refine dn ?_
    clear hHeld
    go_wp2_with fail
    go_meet
    exact ⟨_, _, _, _, rfl, inferInstance, CF.cast inferInstance rfl (by omega), inferInstance, inferInstance, inferInstance, inferInstance, inferInstance, inferInstance, inferInstance, inferInstance, inferInstance, inferInstance⟩
    go_simp
    refine hd hK ?_
    clear hHeld hK K
    intro hHeld
    refine st 4 fun K hK => ?_
    go_simp
    (with_reducible refine Calls.cF (ptCrossC (by omega)) ?_); intros
    refine hd hK ?_
    clear hHeld hK K
    intro hHeld
    refine st 6 fun K hK => ?_
    go_simp
    refine hd hK ?_
    clear hHeld hK K
    intro hHeld
    refine dn ?_
    clear hHeld
    go_wp2_with fail
    go_meet
    exact ⟨_, _, _, _, rfl, inferInstance, CF.cast inferInstance rfl (by omega), inferInstance, inferInstance, inferInstance, inferInstance, inferInstance, inferInstance, inferInstance, inferInstance, inferInstance, inferInstance⟩
    go_simp
    refine hd hK ?_
    clear hHeld hK K
    intro hHeld
    refine st 3 fun K hK => ?_
    go_simp
    (with_reducible refine Calls.cPF (lnNormalC (by omega)) ?_); intros
    refine hd hK ?_
    clear hHeld hK K
    intro hHeld
    refine st 4 fun K hK => ?_
    go_simp
    (with_reducible refine Calls.cF (ptCrossC (by omega)) ?_); intros
    refine hd hK ?_
    clear hHeld hK K
    intro hHeld
    refine st 6 fun K hK => ?_
    go_simp
    refine hd hK ?_
    clear hHeld hK K
    intro hHeld
    refine dn ?_
    clear hHeld
    go_wp2_with fail
    go_meet
    exact ⟨_, _, _, _, rfl, inferInstance, CF.cast inferInstance rfl (by omega), inferInstance, inferInstance, inferInstance, inferInstance, inferInstance, inferInstance, inferInstance, inferInstance, inferInstance, inferInstance⟩
    go_simp
    refine hd hK ?_
    clear hHeld hK K
    intro hHeld
    refine st 1 fun K hK => ?_
    go_simp
    (with_reducible refine Calls.cPF (lnNormalC (by omega)) ?_); intros
    refine hd hK ?_
    clear hHeld hK K
    intro hHeld
    refine st 3 fun K hK => ?_
    go_simp
    (with_reducible refine Calls.cPF (lnNormalC (by omega)) ?_); intros
    refine hd hK ?_
    clear hHeld hK K
    intro hHeld
    refine st 4 fun K hK => ?_
    go_simp
    (with_reducible refine Calls.cF (ptCrossC (by omega)) ?_); intros
    refine hd hK ?_
    clear hHeld hK K
    intro hHeld
    refine st 6 fun K hK => ?_
    go_simp
    refine hd hK ?_
    clear hHeld hK K
    intro hHeld
    refine dn ?_
    clear hHeld
    go_wp2_with fail
    go_meet
    exact ⟨_, _, _, _, rfl, inferInstance, CF.cast inferInstance rfl (by omega), inferInstance, inferInstance, inferInstance, inferInstance, inferInstance, inferInstance, inferInstance, inferInstance, inferInstance, inferInstance⟩
  case rest =>
   obtain ⟨b6, n6, d6, p6, rfl, i1, i2, i3, i4, i5, i6, i7, i8, i9, i10, i11, i12⟩ := hcut
   go_wp2_with (first | (go_at_call 81; (with_reducible refine Calls.cE (rZeroV HZ) ?_); intros))
   refine ret_bt rfl Tryz.underlying108 rfl (by kernel_rfl) rfl rfl rfl ?_
   exact PFBRet.fin rfl (by omega) rfl (by omega)

theorem lineMeetOk {w : World} {g1x g1y g1z g2x g2y g2z : Bool} {a1x a1y a1z a2x a2y a2z : Option Addr} {l1x c1x l1y c1y l1z c1z l2x c2x l2y c2y l2z c2z k1x k1y k1z k2x k2y k2z : Nat} {la lb lc ma mb mc : Int} [h1x : CZ w (.agg #[.bool g1x, .slice a1x l1x c1x]) la k1x] [h1y : CZ w (.agg #[.bool g1y, .slice a1y l1y c1y]) lb k1y] [h1z : CZ w (.agg #[.bool g1z, .slice a1z l1z c1z]) lc k1z] [h2x : CZ w (.agg #[.bool g2x, .slice a2x l2x c2x]) ma k2x] [h2y : CZ w (.agg #[.bool g2y, .slice a2y l2y c2y]) mb k2y] [h2z : CZ w (.agg #[.bool g2z, .slice a2z l2z c2z]) mc k2z] (b : k1x ≤ 6000 ∧ k1y ≤ 6000 ∧ k1z ≤ 6000 ∧ k2x ≤ 6000 ∧ k2y ≤ 6000 ∧ k2z ≤ 6000) (hv : Hid (LnV la lb lc)) (hw : Hid (LnV ma mb mc)) (HZ : Hid (decide (((la : Int) : Rat) * mb - ((lb : Int) : Rat) * ma = 0) = false)) :
    Calls Tryz.prog 21 #[.agg #[.bool g1x, .slice a1x l1x c1x, .bool g1y, .slice a1y l1y c1y, .bool g1z, .slice a1z l1z c1z], .agg #[.bool g2x, .slice a2x l2x c2x, .bool g2y, .slice a2y l2y c2y, .bool g2z, .slice a2z l2z c2z]] w (PABRet w ((((lb : Int) : Rat) * mc - ((lc : Int) : Rat) * mb) / (((la : Int) : Rat) * mb - ((lb : Int) : Rat) * ma)) ((((lc : Int) : Rat) * ma - ((la : Int) : Rat) * mc) / (((la : Int) : Rat) * mb - ((lb : Int) : Rat) * ma)) true (9 * (max k1x (max k1y k1z) + max k2x (max k2y k2z)) + 300)) := by
  go_enter Tryz.func21, Tryz.ntmps21
  go_wp2_with (first
    | (go_at_call 70; (with_reducible refine Calls.cLFB (lnOfC (by omega) hv) ?_); intros)
    | (go_at_call 70; (with_reducible refine Calls.cLFB (lnOfC (by omega) hw) ?_); intros)
    | (go_at_call 71; (with_reducible refine Calls.cPFB (gMeetOk (by omega) HZ) ?_); intros)
    | (go_at_call 72; (with_reducible refine Calls.cPA (ptApiC (by omega)) ?_); intros))
  refine ret_bt rfl Tryz.underlying54 rfl (by kernel_rfl) rfl rfl rfl ?_
  exact PABRet.fin rfl (by omega) rfl (by omega)

theorem lineMeetNo {w : World} {g1x g1y g1z g2x g2y g2z : Bool} {a1x a1y a1z a2x a2y a2z : Option Addr} {l1x c1x l1y c1y l1z c1z l2x c2x l2y c2y l2z c2z k1x k1y k1z k2x k2y k2z : Nat} {la lb lc ma mb mc : Int} [h1x : CZ w (.agg #[.bool g1x, .slice a1x l1x c1x]) la k1x] [h1y : CZ w (.agg #[.bool g1y, .slice a1y l1y c1y]) lb k1y] [h1z : CZ w (.agg #[.bool g1z, .slice a1z l1z c1z]) lc k1z] [h2x : CZ w (.agg #[.bool g2x, .slice a2x l2x c2x]) ma k2x] [h2y : CZ w (.agg #[.bool g2y, .slice a2y l2y c2y]) mb k2y] [h2z : CZ w (.agg #[.bool g2z, .slice a2z l2z c2z]) mc k2z] (b : k1x ≤ 6000 ∧ k1y ≤ 6000 ∧ k1z ≤ 6000 ∧ k2x ≤ 6000 ∧ k2y ≤ 6000 ∧ k2z ≤ 6000) (hv : Hid (LnV la lb lc)) (hw : Hid (LnV ma mb mc)) (HZ : Hid (decide (((la : Int) : Rat) * mb - ((lb : Int) : Rat) * ma = 0) = true)) :
    Calls Tryz.prog 21 #[.agg #[.bool g1x, .slice a1x l1x c1x, .bool g1y, .slice a1y l1y c1y, .bool g1z, .slice a1z l1z c1z], .agg #[.bool g2x, .slice a2x l2x c2x, .bool g2y, .slice a2y l2y c2y, .bool g2z, .slice a2z l2z c2z]] w (fun e w' => e = .returned (.tuple #[.agg #[.bool false, .slice none 0 0, .slice none 0 0, .bool false, .slice none 0 0, .slice none 0 0], .bool false]) ∧ Below w.heap.size w w') := by
  go_enter Tryz.func21, Tryz.ntmps21
  go_wp2_with (first
    | (go_at_call 70; (with_reducible refine Calls.cLFB (lnOfC (by omega) hv) ?_); intros)
    | (go_at_call 70; (with_reducible refine Calls.cLFB (lnOfC (by omega) hw) ?_); intros)
    | (go_at_call 71; (with_reducible refine Calls.cPFB (gMeetNo (by omega) HZ) ?_); intros)
    | (go_at_call 72; (with_reducible refine Calls.cPA (ptApiC (by omega)) ?_); intros))
  refine ret_bt rfl Tryz.underlying54 rfl (by kernel_rfl) rfl rfl rfl ?_
  exact E.fin rfl

end Go.Proofs.YtfdgglddldlpjaaGreat

/- Plain laws of the common point of two lines. -/
namespace Go.Proofs.YtfdgglddldlpjaaGreat
open Go.RowKit
set_option linter.unusedVariables false

theorem meet_on {a b c a' b' c' : Rat} (h : a * b' - b * a' ≠ 0) : a * ((b * c' - c * b') / (a * b' - b * a')) + b * ((c * a' - a * c') / (a * b' - b * a')) + c = 0 := by
  have e : (a * b' - b * a') * (a * b' - b * a')⁻¹ = 1 := Rat.mul_inv_cancel _ h
  rw [Rat.div_def, Rat.div_def]
  grind
theorem meet_on' {a b c a' b' c' : Rat} (h : a * b' - b * a' ≠ 0) : a' * ((b * c' - c * b') / (a * b' - b * a')) + b' * ((c * a' - a * c') / (a * b' - b * a')) + c' = 0 := by
  have e : (a * b' - b * a') * (a * b' - b * a')⁻¹ = 1 := Rat.mul_inv_cancel _ h
  rw [Rat.div_def, Rat.div_def]
  grind
theorem meet_x {b c a a' b' c' : Int} : ((b : Rat) * c' - c * b') / (a * b' - b * a') = ((b' : Rat) * ((-c : Int) : Rat) - c' * ((-b : Int) : Rat)) / (a' * ((-b : Int) : Rat) - b' * ((-a : Int) : Rat)) := by
  rw [Rat.intCast_neg, Rat.intCast_neg, Rat.intCast_neg, show (b' : Rat) * -(c : Rat) - c' * -(b : Rat) = b * c' - c * b' by grind, show (a' : Rat) * -(b : Rat) - b' * -(a : Rat) = a * b' - b * a' by grind]
theorem meet_y {b c a a' b' c' : Int} : ((c : Rat) * a' - a * c') / (a * b' - b * a') = ((c' : Rat) * ((-a : Int) : Rat) - a' * ((-c : Int) : Rat)) / (a' * ((-b : Int) : Rat) - b' * ((-a : Int) : Rat)) := by
  rw [Rat.intCast_neg, Rat.intCast_neg, Rat.intCast_neg, show (c' : Rat) * -(a : Rat) - a' * -(c : Rat) = c * a' - a * c' by grind, show (a' : Rat) * -(b : Rat) - b' * -(a : Rat) = a * b' - b * a' by grind]
theorem meet_d {a b a' b' : Int} {v : Bool} (h : Hid (decide ((a : Rat) * b' - b * a' = 0) = v)) : Hid (decide ((a' : Rat) * ((-b : Int) : Rat) - b' * ((-a : Int) : Rat) = 0) = v) := by
  show _ = _
  rw [Rat.intCast_neg, Rat.intCast_neg, show (a' : Rat) * -(b : Rat) - b' * -(a : Rat) = a * b' - b * a' by grind]
  exact h.out
def phiLZ (x y z : Int) (k : Nat) (u : Value) (W : World) : Prop := ∃ gx ax lx cx gy ay ly cy gz az lz cz, u = .agg #[.bool gx, .slice ax lx cx, .bool gy, .slice ay ly cy, .bool gz, .slice az lz cz] ∧ CZ W (.agg #[.bool gx, .slice ax lx cx]) x k ∧ CZ W (.agg #[.bool gy, .slice ay ly cy]) y k ∧ CZ W (.agg #[.bool gz, .slice az lz cz]) z k
instance {x y z : Int} {k : Nat} : Last (phiLZ x y z k) := ⟨fun _ _ _ hb ⟨gx, ax, lx, cx, gy, ay, ly, cy, gz, az, lz, cz, e, _, _, _⟩ => have := Kp1.mk hb; ⟨gx, ax, lx, cx, gy, ay, ly, cy, gz, az, lz, cz, e, inferInstance, inferInstance, inferInstance⟩⟩
theorem phiLZ.fin {W : World} {gx : Bool} {ax : Option Addr} {lx : Nat} {cx : Nat} {gy : Bool} {ay : Option Addr} {ly : Nat} {cy : Nat} {gz : Bool} {az : Option Addr} {lz : Nat} {cz : Nat} {x x' : Int} {kx : Nat} {y y' : Int} {ky : Nat} {z z' : Int} {kz : Nat} {k : Nat} [hx : CZ W (.agg #[.bool gx, .slice ax lx cx]) x kx] [hy : CZ W (.agg #[.bool gy, .slice ay ly cy]) y ky] [hz : CZ W (.agg #[.bool gz, .slice az lz cz]) z kz] (ex : x = x') (mx : kx ≤ k) (ey : y = y') (my : ky ≤ k) (ez : z = z') (mz : kz ≤ k) : phiLZ x' y' z' k (.agg #[.bool gx, .slice ax lx cx, .bool gy, .slice ay ly cy, .bool gz, .slice az lz cz]) W := ⟨gx, ax, lx, cx, gy, ay, ly, cy, gz, az, lz, cz, rfl, hx.cast ex mx, hy.cast ey my, hz.cast ez mz⟩
def phiPAB (x y : Rat) (v : Bool) (k : Nat) (u : Value) (W : World) : Prop := ∃ gx ax lx cx aax llx ccx gy ay ly cy aay lly ccy, u = .tuple #[.agg #[.bool gx, .slice ax lx cx, .slice aax llx ccx, .bool gy, .slice ay ly cy, .slice aay lly ccy], .bool v] ∧ CA W (.agg #[.bool gx, .slice ax lx cx, .slice aax llx ccx]) x k ∧ CA W (.agg #[.bool gy, .slice ay ly cy, .slice aay lly ccy]) y k
instance {x y : Rat} {v : Bool} {k : Nat} : Last (phiPAB x y v k) := ⟨fun _ _ _ hb ⟨gx, ax, lx, cx, aax, llx, ccx, gy, ay, ly, cy, aay, lly, ccy, e, _, _⟩ => have := Kp1.mk hb; ⟨gx, ax, lx, cx, aax, llx, ccx, gy, ay, ly, cy, aay, lly, ccy, e, inferInstance, inferInstance⟩⟩
theorem phiPAB.fin {W : World} {gx : Bool} {ax : Option Addr} {lx : Nat} {cx : Nat} {aax : Option Addr} {llx : Nat} {ccx : Nat} {gy : Bool} {ay : Option Addr} {ly : Nat} {cy : Nat} {aay : Option Addr} {lly : Nat} {ccy : Nat}  {v : Bool} {x x' : Rat} {kx : Nat} {y y' : Rat} {ky : Nat} {k : Nat} [hx : CA W (.agg #[.bool gx, .slice ax lx cx, .slice aax llx ccx]) x kx] [hy : CA W (.agg #[.bool gy, .slice ay ly cy, .slice aay lly ccy]) y ky] (ex : x = x') (mx : kx ≤ k) (ey : y = y') (my : ky ≤ k) : phiPAB x' y' v k (.tuple #[.agg #[.bool gx, .slice ax lx cx, .slice aax llx ccx, .bool gy, .slice ay ly cy, .slice aay lly ccy], .bool v]) W := ⟨gx, ax, lx, cx, aax, llx, ccx, gy, ay, ly, cy, aay, lly, ccy, rfl, hx.cast ex mx, hy.cast ey my⟩
def phiPA (x y : Rat) (k : Nat) (u : Value) (W : World) : Prop := ∃ gx ax lx cx aax llx ccx gy ay ly cy aay lly ccy, u = .agg #[.bool gx, .slice ax lx cx, .slice aax llx ccx, .bool gy, .slice ay ly cy, .slice aay lly ccy] ∧ CA W (.agg #[.bool gx, .slice ax lx cx, .slice aax llx ccx]) x k ∧ CA W (.agg #[.bool gy, .slice ay ly cy, .slice aay lly ccy]) y k
instance {x y : Rat} {k : Nat} : Last (phiPA x y k) := ⟨fun _ _ _ hb ⟨gx, ax, lx, cx, aax, llx, ccx, gy, ay, ly, cy, aay, lly, ccy, e, _, _⟩ => have := Kp1.mk hb; ⟨gx, ax, lx, cx, aax, llx, ccx, gy, ay, ly, cy, aay, lly, ccy, e, inferInstance, inferInstance⟩⟩
theorem phiPA.fin {W : World} {gx : Bool} {ax : Option Addr} {lx : Nat} {cx : Nat} {aax : Option Addr} {llx : Nat} {ccx : Nat} {gy : Bool} {ay : Option Addr} {ly : Nat} {cy : Nat} {aay : Option Addr} {lly : Nat} {ccy : Nat} {x x' : Rat} {kx : Nat} {y y' : Rat} {ky : Nat} {k : Nat} [hx : CA W (.agg #[.bool gx, .slice ax lx cx, .slice aax llx ccx]) x kx] [hy : CA W (.agg #[.bool gy, .slice ay ly cy, .slice aay lly ccy]) y ky] (ex : x = x') (mx : kx ≤ k) (ey : y = y') (my : ky ≤ k) : phiPA x' y' k (.agg #[.bool gx, .slice ax lx cx, .slice aax llx ccx, .bool gy, .slice ay ly cy, .slice aay lly ccy]) W := ⟨gx, ax, lx, cx, aax, llx, ccx, gy, ay, ly, cy, aay, lly, ccy, rfl, hx.cast ex mx, hy.cast ey my⟩
end Go.Proofs.YtfdgglddldlpjaaGreat

/- The reference's functions of one line. printed by a small program (mkln9.py). -/
namespace Go.Proofs.YtfdgglddldlpjaaGreat
open Go.RowKit
set_option maxRecDepth 100000
set_option maxHeartbeats 40000000
set_option synthInstance.maxSize 100000
set_option synthInstance.maxHeartbeats 1000000
set_option linter.unusedVariables false
set_option linter.unusedSimpArgs false


theorem over_val {x y : Rat} {g : Bool} (hg : g = decide (y.num < 0)) (hy : y ≠ 0) : mkRat (x.num * sgn g y.den) (x.den * y.num.natAbs) = x / y := by
  rw [Rat.div_def, ← inv_sgn hy, hg]
  conv => rhs; rw [← Rat.mkRat_self x]
  rw [Rat.mkRat_mul_mkRat]
theorem dd_eq (a b : Rat) : b * b + -a * -a = a * a + b * b := by grind
theorem dd_ne {a b c : Int} (h : LnV a b c) : Hid (((b : Int) : Rat) * ((b : Int) : Rat) + -((a : Int) : Rat) * -((a : Int) : Rat) ≠ 0) := by
  show _ ≠ _
  rw [dd_eq]; exact sq_ne h.1
theorem base_x {a b c : Rat} : a * (-c / (a * a + b * b)) = -(c / (b * b + -a * -a)) * a := by
  rw [dd_eq, Rat.div_def, Rat.div_def]; grind
theorem base_y {a b c : Rat} : b * (-c / (a * a + b * b)) = -(c / (b * b + -a * -a)) * b := by
  rw [dd_eq, Rat.div_def, Rat.div_def]; grind
theorem at_x {a b c t : Rat} : a * (-c / (a * a + b * b)) + b * t = -(c / (b * b + -a * -a)) * a + t * b := by
  rw [base_x (b := b)]; grind
theorem at_y {a b c t : Rat} : b * (-c / (a * a + b * b)) + -a * t = -(c / (b * b + -a * -a)) * b + t * -a := by
  rw [base_y (a := a)]; grind
theorem par_x {a b x y : Rat} : (b * x + -a * y) / (b * b + -a * -a) = (x * b + y * -a) / (b * b + -a * -a) := by
  rw [show b * x + -a * y = x * b + y * -a by grind]
theorem numOverC {w : World} {g1 g2 : Bool} {a1 aa1 a2 aa2 : Option Addr} {l1 c1 ll1 cc1 l2 c2 ll2 cc2 k1 k2 : Nat} {x y : Rat} [h1 : CQ w (.agg #[.bool g1, .slice a1 l1 c1, .slice aa1 ll1 cc1]) x k1] [h2 : CQ w (.agg #[.bool g2, .slice a2 l2 c2, .slice aa2 ll2 cc2]) y k2] (b : k1 ≤ 30000 ∧ k2 ≤ 30000) (hy : y ≠ 0) :
    Calls Tryz.prog 108 #[.agg #[.bool g1, .slice a1 l1 c1, .slice aa1 ll1 cc1], .agg #[.bool g2, .slice a2 l2 c2, .slice aa2 ll2 cc2]] w (CQRet w (x / y) (k1 + k2 + 8)) := by
  have i1 := h1.num
  have i2 := h2.num
  have hg := (zz_of i2).1
  have i3 : CN w (.slice a2 l2 c2) y.num.natAbs k2 := ⟨(zz_of i2).2⟩
  have HE := Lib.hid (over_val (x := x) hg hy)
  have hm : x.den * y.num.natAbs ≠ 0 := Nat.mul_ne_zero x.den_nz (fun h => hy (Rat.num_eq_zero.1 (Int.natAbs_eq_zero.1 h)))
  clear hg hy
  go_enter Tryz.func108, Tryz.ntmps108
  go_upto_region 1 with fail
  go_cut [5] from 6 to 14 (fun tv wx => ∃ (b : Nat) (g : Bool) (a : Option Addr) (l c : Nat), tv = .pointer (some ⟨b, 0, none⟩) ∧ Bx wx b 35 [.bool g, .slice a l c] ∧ CZ wx (.agg #[.bool g, .slice a l c]) (x.num * sgn g2 y.den) (k1 + k2 + 2) ∧ NeN b (w.heap.size + 1 + 1) ∧ Kp1 (((w.alloc (.cells #[.bool g1, .slice a1 l1 c1, .slice aa1 ll1 cc1] 46)).alloc (.cells #[.bool g2, .slice a2 l2 c2, .slice aa2 ll2 cc2] 46)).alloc (.cells #[.bool false, .slice none 0 0, .slice none 0 0] 46)) wx)
  case first =>
    refine rgn [] [] fun hHeld => ?_
    refine tk 0 hHeld ?_
    refine tk 1 hHeld ?_
    refine tk 2 hHeld ?_
    refine tk 3 hHeld ?_
    refine tk 4 hHeld ?_
    refine tk 5 hHeld ?_
    refine wpAnyT_ready (rs := [6, 9]) (by kernel_rfl) (by simp) ?_
    refine AllT.cons (by simp; rfl) (fun K hK => ?_) (AllT.cons (by simp; rfl) (fun K hK => ?_) AllT.nil)
    go_simp
    (with_reducible refine Calls.cN (numDenC) ?_); intros
    refine hd hK ?_
    clear hHeld hK K
    intro hHeld
    refine wpAnyT_ready (rs := [7, 9]) (by kernel_rfl) (by simp) ?_
    refine AllT.cons (by simp; rfl) (fun K hK => ?_) (AllT.cons (by simp; rfl) (fun K hK => ?_) AllT.nil)
    go_simp
    (with_reducible refine Calls.cSg (makeC) ?_); intros
    refine hd hK ?_
    clear hHeld hK K
    intro hHeld
    refine wpAnyT_ready (rs := [8, 9]) (by kernel_rfl) (by simp) ?_
    refine AllT.cons (by simp; rfl) (fun K hK => ?_) (AllT.cons (by simp; rfl) (fun K hK => ?_) AllT.nil)
    go_simp
    (with_reducible refine Calls.cZ (numMulC (by omega)) ?_); intros
    refine hd hK ?_
    clear hHeld hK K
    intro hHeld
    refine st 9 fun K hK => ?_
    go_simp
    refine hd hK ?_
    clear hHeld hK K
    intro hHeld
    refine st 10 fun K hK => ?_
    go_simp
    refine hd hK ?_
    clear hHeld hK K
    intro hHeld
    refine dn ?_
    clear hHeld
    go_wp2_with fail
    go_meet
    exact ⟨_, _, _, _, _, rfl, inferInstance, CZ.cast inferInstance rfl (by omega), inferInstance, ⟨(inferInstance : Kp (((w.alloc (.cells #[.bool g1, .slice a1 l1 c1, .slice aa1 ll1 cc1] 46)).alloc (.cells #[.bool g2, .slice a2 l2 c2, .slice aa2 ll2 cc2] 46)).alloc (.cells #[.bool false, .slice none 0 0, .slice none 0 0] 46)) _).out⟩⟩
    go_simp
    refine hd hK ?_
    clear hHeld hK K
    intro hHeld
    refine st 8 fun K hK => ?_
    go_simp
    (with_reducible refine Calls.cZ (numMulC (by omega)) ?_); intros
    refine hd hK ?_
    clear hHeld hK K
    intro hHeld
    refine st 10 fun K hK => ?_
    go_simp
    refine hd hK ?_
    clear hHeld hK K
    intro hHeld
    refine dn ?_
    clear hHeld
    go_wp2_with fail
    go_meet
    exact ⟨_, _, _, _, _, rfl, inferInstance, CZ.cast inferInstance rfl (by omega), inferInstance, ⟨(inferInstance : Kp (((w.alloc (.cells #[.bool g1, .slice a1 l1 c1, .slice aa1 ll1 cc1] 46)).alloc (.cells #[.bool g2, .slice a2 l2 c2, .slice aa2 ll2 cc2] 46)).alloc (.cells #[.bool false, .slice none 0 0, .slice none 0 0] 46)) _).out⟩⟩
    go_simp
    refine hd hK ?_
    clear hHeld hK K
    intro hHeld
    refine st 7 fun K hK => ?_
    go_simp
    (with_reducible refine Calls.cSg (makeC) ?_); intros
    refine hd hK ?_
    clear hHeld hK K
    intro hHeld
    refine st 8 fun K hK => ?_
    go_simp
    (with_reducible refine Calls.cZ (numMulC (by omega)) ?_); intros
    refine hd hK ?_
    clear hHeld hK K
    intro hHeld
    refine st 10 fun K hK => ?_
    go_simp
    refine hd hK ?_
    clear hHeld hK K
    intro hHeld
    refine dn ?_
    clear hHeld
    go_wp2_with fail
    go_meet
    exact ⟨_, _, _, _, _, rfl, inferInstance, CZ.cast inferInstance rfl (by omega), inferInstance, ⟨(inferInstance : Kp (((w.alloc (.cells #[.bool g1, .slice a1 l1 c1, .slice aa1 ll1 cc1] 46)).alloc (.cells #[.bool g2, .slice a2 l2 c2, .slice aa2 ll2 cc2] 46)).alloc (.cells #[.bool false, .slice none 0 0, .slice none 0 0] 46)) _).out⟩⟩
    go_simp
    refine hd hK ?_
    clear hHeld hK K
    intro hHeld
    refine st 6 fun K hK => ?_
    go_simp
    (with_reducible refine Calls.cN (numDenC) ?_); intros
    refine hd hK ?_
    clear hHeld hK K
    intro hHeld
    refine st 7 fun K hK => ?_
    go_simp
    (with_reducible refine Calls.cSg (makeC) ?_); intros
    refine hd hK ?_
    clear hHeld hK K
    intro hHeld
    refine st 8 fun K hK => ?_
    go_simp
    (with_reducible refine Calls.cZ (numMulC (by omega)) ?_); intros
    refine hd hK ?_
    clear hHeld hK K
    intro hHeld
    refine st 10 fun K hK => ?_
    go_simp
    refine hd hK ?_
    clear hHeld hK K
    intro hHeld
    refine dn ?_
    clear hHeld
    go_wp2_with fail
    go_meet
    exact ⟨_, _, _, _, _, rfl, inferInstance, CZ.cast inferInstance rfl (by omega), inferInstance, ⟨(inferInstance : Kp (((w.alloc (.cells #[.bool g1, .slice a1 l1 c1, .slice aa1 ll1 cc1] 46)).alloc (.cells #[.bool g2, .slice a2 l2 c2, .slice aa2 ll2 cc2] 46)).alloc (.cells #[.bool false, .slice none 0 0, .slice none 0 0] 46)) _).out⟩⟩
  case rest =>
    obtain ⟨b0, g, a, l, c, rfl, j1, j2, j4, j3⟩ := hcut
    go_wp2_with fail
    refine rgn [w.heap.size + 1 + 1] [] fun hHeld => ?_
    refine tk 0 hHeld ?_
    refine tk 1 hHeld ?_
    refine tk 3 hHeld ?_
    refine tk 4 hHeld ?_
    refine tk 5 hHeld ?_
    refine st 2 fun K hK => ?_
    go_simp
    (with_reducible refine Calls.cN (numDenC) ?_); intros
    refine hd hK ?_
    clear hHeld hK K
    intro hHeld
    refine st 6 fun K hK => ?_
    go_simp
    (with_reducible refine Calls.cN (numProductC (by omega)) ?_); intros
    refine hd hK ?_
    clear hHeld hK K
    intro hHeld
    refine st 7 fun K hK => ?_
    go_simp
    (with_reducible refine Calls.cQ (numFracC (by omega) hm) ?_); intros
    refine hd hK ?_
    clear hHeld hK K
    intro hHeld
    refine st 8 fun K hK => ?_
    go_simp
    refine hd hK ?_
    clear hHeld hK K
    intro hHeld
    refine dn ?_
    clear hHeld
    go_wp2
    refine ret_bx rfl Tryz.underlying46 rfl (by kernel_rfl) rfl rfl rfl ?_
    exact CQRet.fin HE.out (by omega)

theorem refqC {w : World} {g1 : Bool} {a1 : Option Addr} {l1 : Nat} {c1 : Nat} {a : Int} {k1 : Nat} [h1 : CZ w (.agg #[.bool g1, .slice a1 l1 c1]) a k1] :
    Calls Tryz.prog 107 #[.agg #[.bool g1, .slice a1 l1 c1]] w (CQRet w (((a : Int) : Rat)) (k1)) := by
  go_enter Tryz.func107, Tryz.ntmps107
  go_wp2_with fail
  skip
  go_wp2
  refine ret_bx rfl Tryz.underlying46 rfl (by kernel_rfl) rfl rfl rfl ?_
  exact CQRet.fin rfl (by omega)

theorem refDirC {w : World} {g1x g1y g1z : Bool} {a1x a1y a1z : Option Addr} {l1x c1x l1y c1y l1z c1z k1x k1y k1z : Nat} {la lb lc : Int} [h1x : CZ w (.agg #[.bool g1x, .slice a1x l1x c1x]) la k1x] [h1y : CZ w (.agg #[.bool g1y, .slice a1y l1y c1y]) lb k1y] [h1z : CZ w (.agg #[.bool g1z, .slice a1z l1z c1z]) lc k1z] (b : k1x ≤ 9000 ∧ k1y ≤ 9000 ∧ k1z ≤ 9000) :
    Calls Tryz.prog 111 #[.agg #[.bool g1x, .slice a1x l1x c1x, .bool g1y, .slice a1y l1y c1y, .bool g1z, .slice a1z l1z c1z]] w (CPQRet w (((lb : Int) : Rat)) (-((la : Int) : Rat)) (max k1x k1y)) := by
  go_enter Tryz.func111, Tryz.ntmps111
  go_wp2_with fail
  refine rgn [w.heap.size + 1] [] fun hHeld => ?_
  refine tk 0 hHeld ?_
  refine tk 1 hHeld ?_
  refine tk 3 hHeld ?_
  refine tk 4 hHeld ?_
  refine st 2 fun K hK => ?_
  go_simp
  (with_reducible refine Calls.cQ (refqC) ?_); intros
  refine hd hK ?_
  clear hHeld hK K
  intro hHeld
  refine st 5 fun K hK => ?_
  go_simp
  (with_reducible refine Calls.cQ (refqC) ?_); intros
  refine hd hK ?_
  clear hHeld hK K
  intro hHeld
  refine st 6 fun K hK => ?_
  go_simp
  (with_reducible refine Calls.cQ (numOppC) ?_); intros
  refine hd hK ?_
  clear hHeld hK K
  intro hHeld
  refine tk 7 hHeld ?_
  refine st 8 fun K hK => ?_
  go_simp
  refine hd hK ?_
  clear hHeld hK K
  intro hHeld
  refine dn ?_
  clear hHeld
  go_wp2
  refine ret_bx rfl Tryz.underlying48 rfl (by kernel_rfl) rfl rfl rfl ?_
  exact CPQRet.fin rfl (by omega) rfl (by omega)

theorem refPAddB {w : World} {g1x g1y g2 g3x g3y : Bool} {a1x aa1x a1y aa1y a2 aa2 a3x aa3x a3y aa3y : Option Addr} {l1x c1x ll1x cc1x l1y c1y ll1y cc1y l2 c2 ll2 cc2 l3x c3x ll3x cc3x l3y c3y ll3y cc3y k1x k1y k2 k3x k3y : Nat} {x1 y1 z x2 y2 : Rat} [h1x : CQ w (.agg #[.bool g1x, .slice a1x l1x c1x, .slice aa1x ll1x cc1x]) x1 k1x] [h1y : CQ w (.agg #[.bool g1y, .slice a1y l1y c1y, .slice aa1y ll1y cc1y]) y1 k1y] [h2 : CQ w (.agg #[.bool g2, .slice a2 l2 c2, .slice aa2 ll2 cc2]) z k2] [h3x : CQ w (.agg #[.bool g3x, .slice a3x l3x c3x, .slice aa3x ll3x cc3x]) x2 k3x] [h3y : CQ w (.agg #[.bool g3y, .slice a3y l3y c3y, .slice aa3y ll3y cc3y]) y2 k3y] (b : k1x ≤ 40000 ∧ k1y ≤ 40000 ∧ k2 ≤ 10000 ∧ k3x ≤ 10000 ∧ k3y ≤ 10000) :
    Calls Tryz.prog 67 #[.agg #[.bool g1x, .slice a1x l1x c1x, .slice aa1x ll1x cc1x, .bool g1y, .slice a1y l1y c1y, .slice aa1y ll1y cc1y], .agg #[.bool g2, .slice a2 l2 c2, .slice aa2 ll2 cc2], .agg #[.bool g3x, .slice a3x l3x c3x, .slice aa3x ll3x cc3x, .bool g3y, .slice a3y l3y c3y, .slice aa3y ll3y cc3y]] w (CPQRet w (x1 + z * x2) (y1 + z * y2) (max k1x k1y + k2 + max k3x k3y + 8)) := by
  go_enter Tryz.func67, Tryz.ntmps67
  go_wp2_with fail
  refine rgn [w.heap.size + 1 + 1 + 1] [] fun hHeld => ?_
  refine tk 0 hHeld ?_
  refine tk 1 hHeld ?_
  refine tk 2 hHeld ?_
  refine tk 3 hHeld ?_
  refine tk 4 hHeld ?_
  refine tk 7 hHeld ?_
  refine tk 8 hHeld ?_
  refine tk 9 hHeld ?_
  refine tk 10 hHeld ?_
  refine tk 11 hHeld ?_
  refine st 5 fun K hK => ?_
  go_simp
  (with_reducible refine Calls.cQ (numTimesC (by omega)) ?_); intros
  refine hd hK ?_
  clear hHeld hK K
  intro hHeld
  refine st 6 fun K hK => ?_
  go_simp
  (with_reducible refine Calls.cQ (numPlusC (by omega)) ?_); intros
  refine hd hK ?_
  clear hHeld hK K
  intro hHeld
  refine st 12 fun K hK => ?_
  go_simp
  (with_reducible refine Calls.cQ (numTimesC (by omega)) ?_); intros
  refine hd hK ?_
  clear hHeld hK K
  intro hHeld
  refine st 13 fun K hK => ?_
  go_simp
  (with_reducible refine Calls.cQ (numPlusC (by omega)) ?_); intros
  refine hd hK ?_
  clear hHeld hK K
  intro hHeld
  refine tk 14 hHeld ?_
  refine st 15 fun K hK => ?_
  go_simp
  refine hd hK ?_
  clear hHeld hK K
  intro hHeld
  refine dn ?_
  clear hHeld
  go_wp2
  refine ret_bx rfl Tryz.underlying48 rfl (by kernel_rfl) rfl rfl rfl ?_
  exact CPQRet.fin rfl (by omega) rfl (by omega)

theorem sameP05B {w : World} {g1x g1y g2x g2y : Bool} {a1x aa1x a1y aa1y a2x aa2x a2y aa2y : Option Addr} {l1x c1x ll1x cc1x l1y c1y ll1y cc1y l2x c2x ll2x cc2x l2y c2y ll2y cc2y k1x k1y k2x k2y : Nat} {x1 y1 x2 y2 : Rat} [h1x : CA w (.agg #[.bool g1x, .slice a1x l1x c1x, .slice aa1x ll1x cc1x]) x1 k1x] [h1y : CA w (.agg #[.bool g1y, .slice a1y l1y c1y, .slice aa1y ll1y cc1y]) y1 k1y] [h2x : CQ w (.agg #[.bool g2x, .slice a2x l2x c2x, .slice aa2x ll2x cc2x]) x2 k2x] [h2y : CQ w (.agg #[.bool g2y, .slice a2y l2y c2y, .slice aa2y ll2y cc2y]) y2 k2y] (b : k1x ≤ 390000 ∧ k1y ≤ 390000 ∧ k2x ≤ 390000 ∧ k2y ≤ 390000) (hx : x1 = x2) (hy : y1 = y2) :
    Calls Tryz.prog 43 #[.agg #[.bool g1x, .slice a1x l1x c1x, .slice aa1x ll1x cc1x, .bool g1y, .slice a1y l1y c1y, .slice aa1y ll1y cc1y], .agg #[.bool g2x, .slice a2x l2x c2x, .slice aa2x ll2x cc2x, .bool g2y, .slice a2y l2y c2y, .slice aa2y ll2y cc2y]] w (fun e w' => e = .returned (.bool true) ∧ Below w.heap.size w w') := by
  subst hx hy
  go_enter Tryz.func43, Tryz.ntmps43
  go_wp2_with fail
  refine rgn [] [] fun hHeld => ?_
  refine tk 0 hHeld ?_
  refine tk 1 hHeld ?_
  refine st 2 fun K hK => ?_
  go_simp
  (with_reducible refine Calls.cPA (toPC (by omega)) ?_); intros
  refine hd hK ?_
  clear hHeld hK K
  intro hHeld
  refine st 3 fun K hK => ?_
  go_simp
  (with_reducible refine Calls.cE (samePC rfl rfl) ?_); intros
  refine hd hK ?_
  clear hHeld hK K
  intro hHeld
  refine tk 4 hHeld ?_
  refine dn ?_
  clear hHeld
  go_wp2_with fail
  go_ret
  exact E.fin rfl

end Go.Proofs.YtfdgglddldlpjaaGreat

/- The reference's functions of two lines. printed by a small program (mkln12.py). -/
namespace Go.Proofs.YtfdgglddldlpjaaGreat
open Go.RowKit
set_option maxRecDepth 100000
set_option maxHeartbeats 40000000
set_option synthInstance.maxSize 100000
set_option synthInstance.maxHeartbeats 1000000
set_option linter.unusedVariables false
set_option linter.unusedSimpArgs false

theorem geOf {w0 w : World} (e : Hid (w0 = w)) {b : Nat} (h : Ge w0 b) : Ge w b := by rw [← e.out]; exact h
theorem isgn_icmp (x y : Int) : isgn ((x : Rat) - (y : Rat)).num = icmp x y := by
  rw [← Rat.intCast_sub]
  show isgn (x - y) = _
  unfold isgn icmp
  repeat' split
  all_goals omega
theorem cmpL_int (a b c a' b' c' : Int) : cmpL (a : Rat) (b : Rat) (c : Rat) (a' : Rat) (b' : Rat) (c' : Rat) = or3 (icmp a a') (icmp b b') (icmp c c') := by
  unfold cmpL
  rw [isgn_icmp, isgn_icmp, isgn_icmp]
theorem par_ref {a b a' b' : Int} {v : Bool} (h : Hid (decide ((a : Rat) * b' - b * a' = 0) = v)) : (isgn ((b : Rat) * -(a' : Rat) - -(a : Rat) * (b' : Rat)).num == 0) = v := by
  rw [isgn_dec, ← h.out]
  congr 1
  exact propext ⟨fun h => by grind, fun h => by grind⟩
theorem numCompareV {w : World} {v : Int} {g1 : Bool} {a1 : Option Addr} {l1 : Nat} {c1 : Nat} {x : Int} {g2 : Bool} {a2 : Option Addr} {l2 : Nat} {c2 : Nat} {y : Int} {k1 k2 : Nat} [h1 : CZ w (.agg #[.bool g1, .slice a1 l1 c1]) x k1] [h2 : CZ w (.agg #[.bool g2, .slice a2 l2 c2]) y k2] (b : k1 ≤ 900000 ∧ k2 ≤ 900000) (hv : Hid (icmp x y = v)) :
    Calls Tryz.prog 109 #[.agg #[.bool g1, .slice a1 l1 c1], .agg #[.bool g2, .slice a2 l2 c2]] w (fun e w' => e = .returned (.int .i64 v) ∧ Below w.heap.size w w') := by
  rw [← hv.out]; exact numCompareC b
theorem refRevC {w : World} {g1x g1y g1z : Bool} {a1x a1y a1z : Option Addr} {l1x c1x l1y c1y l1z c1z k1x k1y k1z : Nat} {la lb lc : Int} [h1x : CZ w (.agg #[.bool g1x, .slice a1x l1x c1x]) la k1x] [h1y : CZ w (.agg #[.bool g1y, .slice a1y l1y c1y]) lb k1y] [h1z : CZ w (.agg #[.bool g1z, .slice a1z l1z c1z]) lc k1z] :
    Calls Tryz.prog 41 #[.agg #[.bool g1x, .slice a1x l1x c1x, .bool g1y, .slice a1y l1y c1y, .bool g1z, .slice a1z l1z c1z]] w (CLZRet w (-la) (-lb) (-lc) (max k1x (max k1y k1z))) := by
  go_enter Tryz.func41, Tryz.ntmps41
  go_wp2_with fail
  refine rgn [w.heap.size + 1] [] fun hHeld => ?_
  refine tk 0 hHeld ?_
  refine tk 1 hHeld ?_
  refine tk 3 hHeld ?_
  refine tk 4 hHeld ?_
  refine tk 6 hHeld ?_
  refine tk 7 hHeld ?_
  refine st 2 fun K hK => ?_
  go_simp
  (with_reducible refine Calls.cZ (numMinusC) ?_); intros
  refine hd hK ?_
  clear hHeld hK K
  intro hHeld
  refine st 5 fun K hK => ?_
  go_simp
  (with_reducible refine Calls.cZ (numMinusC) ?_); intros
  refine hd hK ?_
  clear hHeld hK K
  intro hHeld
  refine st 8 fun K hK => ?_
  go_simp
  (with_reducible refine Calls.cZ (numMinusC) ?_); intros
  refine hd hK ?_
  clear hHeld hK K
  intro hHeld
  refine tk 9 hHeld ?_
  refine st 10 fun K hK => ?_
  go_simp
  refine hd hK ?_
  clear hHeld hK K
  intro hHeld
  refine dn ?_
  clear hHeld
  go_wp2
  refine ret_bx rfl Tryz.underlying37 rfl (by kernel_rfl) rfl rfl rfl ?_
  exact CLZRet.fin rfl (by omega) rfl (by omega) rfl (by omega)

theorem refCmpV {w : World} {v : Int} {g1x g1y g1z g2x g2y g2z : Bool} {a1x a1y a1z a2x a2y a2z : Option Addr} {l1x c1x l1y c1y l1z c1z l2x c2x l2y c2y l2z c2z k1x k1y k1z k2x k2y k2z : Nat} {la lb lc ma mb mc : Int} [h1x : CZ w (.agg #[.bool g1x, .slice a1x l1x c1x]) la k1x] [h1y : CZ w (.agg #[.bool g1y, .slice a1y l1y c1y]) lb k1y] [h1z : CZ w (.agg #[.bool g1z, .slice a1z l1z c1z]) lc k1z] [h2x : CZ w (.agg #[.bool g2x, .slice a2x l2x c2x]) ma k2x] [h2y : CZ w (.agg #[.bool g2y, .slice a2y l2y c2y]) mb k2y] [h2z : CZ w (.agg #[.bool g2z, .slice a2z l2z c2z]) mc k2z] (b : k1x ≤ 300000 ∧ k1y ≤ 300000 ∧ k1z ≤ 300000 ∧ k2x ≤ 300000 ∧ k2y ≤ 300000 ∧ k2z ≤ 300000) (hv : Hid (cmpL ((la : Int) : Rat) ((lb : Int) : Rat) ((lc : Int) : Rat) ((ma : Int) : Rat) ((mb : Int) : Rat) ((mc : Int) : Rat) = v)) :
    Calls Tryz.prog 44 #[.agg #[.bool g1x, .slice a1x l1x c1x, .bool g1y, .slice a1y l1y c1y, .bool g1z, .slice a1z l1z c1z], .agg #[.bool g2x, .slice a2x l2x c2x, .bool g2y, .slice a2y l2y c2y, .bool g2z, .slice a2z l2z c2z]] w (fun e w' => e = .returned (.int .i64 v) ∧ Below w.heap.size w w') := by
  have HV : Hid (or3 (icmp la ma) (icmp lb mb) (icmp lc mc) = v) := by show _ = _; rw [← cmpL_int]; exact hv.out
  clear hv
  obtain ⟨c1, q1⟩ : ∃ c, icmp la ma = c := ⟨_, rfl⟩
  obtain ⟨c2, q2⟩ : ∃ c, icmp lb mb = c := ⟨_, rfl⟩
  obtain ⟨c3, q3⟩ : ∃ c, icmp lc mc = c := ⟨_, rfl⟩
  rw [q1, q2, q3] at HV
  have H1 := Lib.hid q1
  have H2 := Lib.hid q2
  have H3 := Lib.hid q3
  clear q1 q2 q3
  by_cases z1 : c1 = 0
  · subst z1
    by_cases z2 : c2 = 0
    · subst z2
      have HE : Hid (v = c3) := by show _ = _; rw [← HV.out]; simp [or3]
      go_enter Tryz.func44, Tryz.ntmps44
      go_wp2_with (first
      | (go_at_call 109; (with_reducible refine Calls.cE (numCompareV (by omega) H1) ?_); intros)
      | (go_at_call 109; (with_reducible refine Calls.cE (numCompareV (by omega) H2) ?_); intros)
      | (go_at_call 109; (with_reducible refine Calls.cE (numCompareV (by omega) H3) ?_); intros))
      go_ret
      exact E.fin (by rw [HE.out]; rfl)
    · have HE : Hid (v = c2) := by show _ = _; rw [← HV.out]; simp [or3, z2]
      have e1 : (c2 == 0) = false := by rw [beq_eq_false_iff_ne]; exact z2
      have e2 : (c2 != 0) = true := by simp [bne, e1]
      clear z2
      go_enter Tryz.func44, Tryz.ntmps44
      go_wp2_with (first
      | (go_at_call 109; (with_reducible refine Calls.cE (numCompareV (by omega) H1) ?_); intros)
      | (go_at_call 109; (with_reducible refine Calls.cE (numCompareV (by omega) H2) ?_); intros)
      | (go_at_call 109; (with_reducible refine Calls.cE (numCompareV (by omega) H3) ?_); intros))
      go_ret
      exact E.fin (by rw [HE.out]; rfl)
  · have HE : Hid (v = c1) := by show _ = _; rw [← HV.out]; simp [or3, z1]
    have e1 : (c1 == 0) = false := by rw [beq_eq_false_iff_ne]; exact z1
    have e2 : (c1 != 0) = true := by simp [bne, e1]
    clear z1
    go_enter Tryz.func44, Tryz.ntmps44
    go_wp2_with (first
      | (go_at_call 109; (with_reducible refine Calls.cE (numCompareV (by omega) H1) ?_); intros)
      | (go_at_call 109; (with_reducible refine Calls.cE (numCompareV (by omega) H2) ?_); intros)
      | (go_at_call 109; (with_reducible refine Calls.cE (numCompareV (by omega) H3) ?_); intros))
    go_ret
    exact E.fin (by rw [HE.out]; rfl)

theorem refParallelV {w : World} {v : Bool} {g1x g1y g1z g2x g2y g2z : Bool} {a1x a1y a1z a2x a2y a2z : Option Addr} {l1x c1x l1y c1y l1z c1z l2x c2x l2y c2y l2z c2z k1x k1y k1z k2x k2y k2z : Nat} {la lb lc ma mb mc : Int} [h1x : CZ w (.agg #[.bool g1x, .slice a1x l1x c1x]) la k1x] [h1y : CZ w (.agg #[.bool g1y, .slice a1y l1y c1y]) lb k1y] [h1z : CZ w (.agg #[.bool g1z, .slice a1z l1z c1z]) lc k1z] [h2x : CZ w (.agg #[.bool g2x, .slice a2x l2x c2x]) ma k2x] [h2y : CZ w (.agg #[.bool g2y, .slice a2y l2y c2y]) mb k2y] [h2z : CZ w (.agg #[.bool g2z, .slice a2z l2z c2z]) mc k2z] (b : k1x ≤ 8000 ∧ k1y ≤ 8000 ∧ k1z ≤ 8000 ∧ k2x ≤ 8000 ∧ k2y ≤ 8000 ∧ k2z ≤ 8000) (hv : Hid (decide (((la : Int) : Rat) * ((mb : Int) : Rat) - ((lb : Int) : Rat) * ((ma : Int) : Rat) = 0) = v)) :
    Calls Tryz.prog 45 #[.agg #[.bool g1x, .slice a1x l1x c1x, .bool g1y, .slice a1y l1y c1y, .bool g1z, .slice a1z l1z c1z], .agg #[.bool g2x, .slice a2x l2x c2x, .bool g2y, .slice a2y l2y c2y, .bool g2z, .slice a2z l2z c2z]] w (fun e w' => e = .returned (.bool v) ∧ Below w.heap.size w w') := by
  have HP := Lib.hid (par_ref hv)
  clear hv
  go_enter Tryz.func45, Tryz.ntmps45
  go_wp2_with fail
  refine rgn [] [] fun hHeld => ?_
  refine tk 0 hHeld ?_
  refine tk 2 hHeld ?_
  refine st 1 fun K hK => ?_
  go_simp
  (with_reducible refine Calls.cPQ (refDirC (by omega)) ?_); intros
  refine hd hK ?_
  clear hHeld hK K
  intro hHeld
  refine st 3 fun K hK => ?_
  go_simp
  (with_reducible refine Calls.cPQ (refDirC (by omega)) ?_); intros
  refine hd hK ?_
  clear hHeld hK K
  intro hHeld
  refine st 4 fun K hK => ?_
  go_simp
  (with_reducible refine Calls.cQ (refCrossC (by omega)) ?_); intros
  refine hd hK ?_
  clear hHeld hK K
  intro hHeld
  refine st 5 fun K hK => ?_
  go_simp
  (with_reducible refine Calls.cE (numSC) ?_); intros
  refine hd hK ?_
  clear hHeld hK K
  intro hHeld
  refine tk 6 hHeld ?_
  refine tk 7 hHeld ?_
  refine dn ?_
  clear hHeld
  go_wp2
  go_ret
  exact E.fin (by rw [HP.out]; rfl)

/-- A value of the kind PQ and a Boolean are returned; nothing that was there has changed. -/
def PQBRet (w : World) (x y : Rat) (v : Bool) (k : Nat) (e : Ending) (w' : World) : Prop := ∃ gx ax lx cx aax llx ccx gy ay ly cy aay lly ccy, e = .returned (.tuple #[.agg #[.bool gx, .slice ax lx cx, .slice aax llx ccx, .bool gy, .slice ay ly cy, .slice aay lly ccy], .bool v]) ∧ CQ w' (.agg #[.bool gx, .slice ax lx cx, .slice aax llx ccx]) x k ∧ CQ w' (.agg #[.bool gy, .slice ay ly cy, .slice aay lly ccy]) y k ∧ Below w.heap.size w w'
theorem Calls.cPQB {P : Program} {f : FuncId} {args : Array Value} {w : World} {x y : Rat} {v : Bool} {k : Nat} {K : Ending → World → Prop} (h : Calls P f args w (PQBRet w x y v k))
    (hK : ∀ w' [Kp1 w w'] (gx : Bool) (ax : Option Addr) (lx : Nat) (cx : Nat) (aax : Option Addr) (llx : Nat) (ccx : Nat) (gy : Bool) (ay : Option Addr) (ly : Nat) (cy : Nat) (aay : Option Addr) (lly : Nat) (ccy : Nat) [CQ w' (.agg #[.bool gx, .slice ax lx cx, .slice aax llx ccx]) x k] [CQ w' (.agg #[.bool gy, .slice ay ly cy, .slice aay lly ccy]) y k], K (.returned (.tuple #[.agg #[.bool gx, .slice ax lx cx, .slice aax llx ccx, .bool gy, .slice ay ly cy, .slice aay lly ccy], .bool v])) w') : Calls P f args w K := by
  refine h.mono ?_
  rintro e w' ⟨gx, ax, lx, cx, aax, llx, ccx, gy, ay, ly, cy, aay, lly, ccy, rfl, hx, hy, hb⟩
  exact @hK w' ⟨hb⟩ gx ax lx cx aax llx ccx gy ay ly cy aay lly ccy hx hy
theorem PQBRet.fin {w w' : World} {v : Bool} {gx : Bool} {ax : Option Addr} {lx : Nat} {cx : Nat} {aax : Option Addr} {llx : Nat} {ccx : Nat} {gy : Bool} {ay : Option Addr} {ly : Nat} {cy : Nat} {aay : Option Addr} {lly : Nat} {ccy : Nat} {x x' : Rat} {kx : Nat} {y y' : Rat} {ky : Nat} {k : Nat} [b : Kp w w'] [hx : CQ w' (.agg #[.bool gx, .slice ax lx cx, .slice aax llx ccx]) x kx] [hy : CQ w' (.agg #[.bool gy, .slice ay ly cy, .slice aay lly ccy]) y ky] (ex : x = x') (mx : kx ≤ k) (ey : y = y') (my : ky ≤ k) : PQBRet w x' y' v k (.returned (.tuple #[.agg #[.bool gx, .slice ax lx cx, .slice aax llx ccx, .bool gy, .slice ay ly cy, .slice aay lly ccy], .bool v])) w' :=
  ⟨_, _, _, _, _, _, _, _, _, _, _, _, _, _, rfl, hx.cast ex mx, hy.cast ey my, b.out⟩
theorem numSV {w : World} {v : Int} {g1 : Bool} {a1 aa1 : Option Addr} {l1 c1 ll1 cc1 : Nat} {x : Rat} {k1 : Nat} [h1 : CQ w (.agg #[.bool g1, .slice a1 l1 c1, .slice aa1 ll1 cc1]) x k1] (hv : Hid (isgn x.num = v)) :
    Calls Tryz.prog 29 #[.agg #[.bool g1, .slice a1 l1 c1, .slice aa1 ll1 cc1]] w (fun e w' => e = .returned (.int .i64 v) ∧ Below w.heap.size w w') := by
  rw [← hv.out]; exact numSC
theorem meet_dr {a b a' b' : Rat} (h : a * b' - b * a' ≠ 0) : a * b' - a' * b ≠ 0 := by
  rw [Rat.mul_comm a' b]; exact h
theorem refMeetOk {w : World} {g1x g1y g1z g2x g2y g2z : Bool} {a1x a1y a1z a2x a2y a2z : Option Addr} {l1x c1x l1y c1y l1z c1z l2x c2x l2y c2y l2z c2z k1x k1y k1z k2x k2y k2z : Nat} {la lb lc ma mb mc : Int} [h1x : CZ w (.agg #[.bool g1x, .slice a1x l1x c1x]) la k1x] [h1y : CZ w (.agg #[.bool g1y, .slice a1y l1y c1y]) lb k1y] [h1z : CZ w (.agg #[.bool g1z, .slice a1z l1z c1z]) lc k1z] [h2x : CZ w (.agg #[.bool g2x, .slice a2x l2x c2x]) ma k2x] [h2y : CZ w (.agg #[.bool g2y, .slice a2y l2y c2y]) mb k2y] [h2z : CZ w (.agg #[.bool g2z, .slice a2z l2z c2z]) mc k2z] (b : k1x ≤ 3000 ∧ k1y ≤ 3000 ∧ k1z ≤ 3000 ∧ k2x ≤ 3000 ∧ k2y ≤ 3000 ∧ k2z ≤ 3000) (HZ : Hid (decide (((la : Int) : Rat) * ((mb : Int) : Rat) - ((lb : Int) : Rat) * ((ma : Int) : Rat) = 0) = false)) :
    Calls Tryz.prog 42 #[.agg #[.bool g1x, .slice a1x l1x c1x, .bool g1y, .slice a1y l1y c1y, .bool g1z, .slice a1z l1z c1z], .agg #[.bool g2x, .slice a2x l2x c2x, .bool g2y, .slice a2y l2y c2y, .bool g2z, .slice a2z l2z c2z]] w (PQBRet w ((((lb : Int) : Rat) * ((mc : Int) : Rat) - ((mb : Int) : Rat) * ((lc : Int) : Rat)) / (((la : Int) : Rat) * ((mb : Int) : Rat) - ((ma : Int) : Rat) * ((lb : Int) : Rat))) ((((ma : Int) : Rat) * ((lc : Int) : Rat) - ((la : Int) : Rat) * ((mc : Int) : Rat)) / (((la : Int) : Rat) * ((mb : Int) : Rat) - ((ma : Int) : Rat) * ((lb : Int) : Rat))) true (3 * (k1x + k1y + k1z + k2x + k2y + k2z) + 100)) := by
  have hne : ((la : Int) : Rat) * ((mb : Int) : Rat) - ((ma : Int) : Rat) * ((lb : Int) : Rat) ≠ 0 := meet_dr (of_decide_eq_false HZ.out)
  have HN := Lib.hid hne
  obtain ⟨s, hs⟩ : ∃ s, isgn (((la : Int) : Rat) * ((mb : Int) : Rat) - ((ma : Int) : Rat) * ((lb : Int) : Rat)).num = s := ⟨_, rfl⟩
  have HS := Lib.hid hs
  have e1 : (s == 0) = false := by rw [beq_eq_false_iff_ne, ← hs]; exact fun e => hne (isg_zero.1 e)
  clear hs hne
  go_enter Tryz.func42, Tryz.ntmps42
  go_upto_region 1 with fail
  go_cut [6] from 9 to 23 (fun t wx => ∃ (b6 : Nat) (g6 : Bool) (a6 : Option Addr) (l6 c6 : Nat) (aa6 : Option Addr) (ll6 cc6 : Nat), t = .pointer (some ⟨b6, 0, none⟩) ∧ Bx wx b6 46 [.bool g6, .slice a6 l6 c6, .slice aa6 ll6 cc6] ∧ CQ wx (.agg #[.bool g6, .slice a6 l6 c6, .slice aa6 ll6 cc6]) (((la : Int) : Rat) * ((mb : Int) : Rat) - ((ma : Int) : Rat) * ((lb : Int) : Rat)) (k1x + k1y + k1z + k2x + k2y + k2z + 20) ∧ Kp (((w.alloc (.cells #[.bool g1x, .slice a1x l1x c1x, .bool g1y, .slice a1y l1y c1y, .bool g1z, .slice a1z l1z c1z] 37)).alloc (.cells #[.bool g2x, .slice a2x l2x c2x, .bool g2y, .slice a2y l2y c2y, .bool g2z, .slice a2z l2z c2z] 37)).alloc (.cells #[.bool false, .slice none 0 0, .slice none 0 0, .bool false, .slice none 0 0, .slice none 0 0] 48)) wx)
  case first =>
    refine rgnW [] [] fun w0 ew hHeld => ?_
    refine tk 0 hHeld ?_
    refine tk 1 hHeld ?_
    refine tk 3 hHeld ?_
    refine tk 4 hHeld ?_
    refine tk 7 hHeld ?_
    refine tk 8 hHeld ?_
    refine tk 10 hHeld ?_
    refine tk 11 hHeld ?_
    refine wpAnyT_inv [(2, 11), (5, 14), (6, 15), (9, 18), (12, 21), (13, 22), (14, 23), (15, 6)] (fun i => match i with | 2 => [] | 5 => [2] | 6 => [2, 5] | 9 => [6] | 12 => [9] | 13 => [9, 12] | 14 => [6, 13] | 15 => [] | _ => []) [phiQ (((la : Int) : Rat)) k1x, phiQ (((mb : Int) : Rat)) k2y, phiQ (((la : Int) : Rat) * ((mb : Int) : Rat)) (k1x + k2y + 4), phiQ (((ma : Int) : Rat)) k2x, phiQ (((lb : Int) : Rat)) k1y, phiQ (((ma : Int) : Rat) * ((lb : Int) : Rat)) (k2x + k1y + 4), phiQ (((la : Int) : Rat) * ((mb : Int) : Rat) - ((ma : Int) : Rat) * ((lb : Int) : Rat)) (k1x + k1y + k1z + k2x + k2y + k2z + 20), phiB w0 46 [.bool false, .slice none 0 0, .slice none 0 0]] [15] 1 (by rfl) (by decide +kernel) (by decide) (by decide) (by kernel_rfl) ?_ (fun _ _ => Ex.below) hHeld ?_ ?_
    · intro i hi v W h
      simp only [List.mem_cons, List.not_mem_nil, or_false] at hi
      rcases hi with rfl
      all_goals exact phiB.old h
    · intro i hi f W hSw hbw hp
      have kw := Kp1.mk hbw
      have kv := kpOf ew (W := W)
      have kz : Kz w0 W := ⟨kv.out.size⟩
      have hSx := Ex1.mk hSw
      clear hHeld
      simp only [List.map_cons, List.map_nil, List.mem_cons, List.not_mem_nil, or_false] at hi
      rcases hi with rfl | rfl | rfl | rfl | rfl | rfl | rfl | rfl
      · refine ⟨_, by simp; rfl, fun K' hK => ?_⟩
        clear hp
        simp only [putAll, Act.put, List.setIfInBounds_toArray, List.set_cons_zero, List.set_cons_succ] at hK ⊢
        generalize f 2 = v2 at *
        generalize f 5 = v5 at *
        generalize f 6 = v6 at *
        generalize f 9 = v9 at *
        generalize f 12 = v12 at *
        generalize f 13 = v13 at *
        generalize f 14 = v14 at *
        generalize f 15 = v15 at *
        go_simp
        (with_reducible refine Calls.cQ (refqC) ?_); intros
        refine hK.out _ _ _ rfl (inferInstance : Kp W _).out ?_ ?_
        · exact phiQ.fin rfl (by omega)
        · exact fun h => absurd h (by decide)
      · have h2 : phiQ (((la : Int) : Rat)) k1x (f 2) W := hp 2 (by decide)
        refine ⟨_, by simp; rfl, fun K' hK => ?_⟩
        clear hp
        simp only [putAll, Act.put, List.setIfInBounds_toArray, List.set_cons_zero, List.set_cons_succ] at hK ⊢
        generalize f 2 = v2 at *
        generalize f 5 = v5 at *
        generalize f 6 = v6 at *
        generalize f 9 = v9 at *
        generalize f 12 = v12 at *
        generalize f 13 = v13 at *
        generalize f 14 = v14 at *
        generalize f 15 = v15 at *
        obtain ⟨g2, a2, l2, c2, aa2, ll2, cc2, rfl, i2⟩ := h2
        go_simp
        (with_reducible refine Calls.cQ (refqC) ?_); intros
        refine hK.out _ _ _ rfl (inferInstance : Kp W _).out ?_ ?_
        · exact phiQ.fin rfl (by omega)
        · exact fun h => absurd h (by decide)
      · have h2 : phiQ (((la : Int) : Rat)) k1x (f 2) W := hp 2 (by decide)
        have h5 : phiQ (((mb : Int) : Rat)) k2y (f 5) W := hp 5 (by decide)
        refine ⟨_, by simp; rfl, fun K' hK => ?_⟩
        clear hp
        simp only [putAll, Act.put, List.setIfInBounds_toArray, List.set_cons_zero, List.set_cons_succ] at hK ⊢
        generalize f 2 = v2 at *
        generalize f 5 = v5 at *
        generalize f 6 = v6 at *
        generalize f 9 = v9 at *
        generalize f 12 = v12 at *
        generalize f 13 = v13 at *
        generalize f 14 = v14 at *
        generalize f 15 = v15 at *
        obtain ⟨g2, a2, l2, c2, aa2, ll2, cc2, rfl, i2⟩ := h2
        obtain ⟨g5, a5, l5, c5, aa5, ll5, cc5, rfl, i5⟩ := h5
        go_simp
        (with_reducible refine Calls.cQ (numTimesC (by omega)) ?_); intros
        refine hK.out _ _ _ rfl (inferInstance : Kp W _).out ?_ ?_
        · exact phiQ.fin rfl (by omega)
        · exact fun h => absurd h (by decide)
      · have h6 : phiQ (((la : Int) : Rat) * ((mb : Int) : Rat)) (k1x + k2y + 4) (f 6) W := hp 6 (by decide)
        refine ⟨_, by simp; rfl, fun K' hK => ?_⟩
        clear hp
        simp only [putAll, Act.put, List.setIfInBounds_toArray, List.set_cons_zero, List.set_cons_succ] at hK ⊢
        generalize f 2 = v2 at *
        generalize f 5 = v5 at *
        generalize f 6 = v6 at *
        generalize f 9 = v9 at *
        generalize f 12 = v12 at *
        generalize f 13 = v13 at *
        generalize f 14 = v14 at *
        generalize f 15 = v15 at *
        obtain ⟨g6, a6, l6, c6, aa6, ll6, cc6, rfl, i6⟩ := h6
        go_simp
        (with_reducible refine Calls.cQ (refqC) ?_); intros
        refine hK.out _ _ _ rfl (inferInstance : Kp W _).out ?_ ?_
        · exact phiQ.fin rfl (by omega)
        · exact fun h => absurd h (by decide)
      · have h9 : phiQ (((ma : Int) : Rat)) k2x (f 9) W := hp 9 (by decide)
        refine ⟨_, by simp; rfl, fun K' hK => ?_⟩
        clear hp
        simp only [putAll, Act.put, List.setIfInBounds_toArray, List.set_cons_zero, List.set_cons_succ] at hK ⊢
        generalize f 2 = v2 at *
        generalize f 5 = v5 at *
        generalize f 6 = v6 at *
        generalize f 9 = v9 at *
        generalize f 12 = v12 at *
        generalize f 13 = v13 at *
        generalize f 14 = v14 at *
        generalize f 15 = v15 at *
        obtain ⟨g9, a9, l9, c9, aa9, ll9, cc9, rfl, i9⟩ := h9
        go_simp
        (with_reducible refine Calls.cQ (refqC) ?_); intros
        refine hK.out _ _ _ rfl (inferInstance : Kp W _).out ?_ ?_
        · exact phiQ.fin rfl (by omega)
        · exact fun h => absurd h (by decide)
      · have h9 : phiQ (((ma : Int) : Rat)) k2x (f 9) W := hp 9 (by decide)
        have h12 : phiQ (((lb : Int) : Rat)) k1y (f 12) W := hp 12 (by decide)
        refine ⟨_, by simp; rfl, fun K' hK => ?_⟩
        clear hp
        simp only [putAll, Act.put, List.setIfInBounds_toArray, List.set_cons_zero, List.set_cons_succ] at hK ⊢
        generalize f 2 = v2 at *
        generalize f 5 = v5 at *
        generalize f 6 = v6 at *
        generalize f 9 = v9 at *
        generalize f 12 = v12 at *
        generalize f 13 = v13 at *
        generalize f 14 = v14 at *
        generalize f 15 = v15 at *
        obtain ⟨g9, a9, l9, c9, aa9, ll9, cc9, rfl, i9⟩ := h9
        obtain ⟨g12, a12, l12, c12, aa12, ll12, cc12, rfl, i12⟩ := h12
        go_simp
        (with_reducible refine Calls.cQ (numTimesC (by omega)) ?_); intros
        refine hK.out _ _ _ rfl (inferInstance : Kp W _).out ?_ ?_
        · exact phiQ.fin rfl (by omega)
        · exact fun h => absurd h (by decide)
      · have h6 : phiQ (((la : Int) : Rat) * ((mb : Int) : Rat)) (k1x + k2y + 4) (f 6) W := hp 6 (by decide)
        have h13 : phiQ (((ma : Int) : Rat) * ((lb : Int) : Rat)) (k2x + k1y + 4) (f 13) W := hp 13 (by decide)
        refine ⟨_, by simp; rfl, fun K' hK => ?_⟩
        clear hp
        simp only [putAll, Act.put, List.setIfInBounds_toArray, List.set_cons_zero, List.set_cons_succ] at hK ⊢
        generalize f 2 = v2 at *
        generalize f 5 = v5 at *
        generalize f 6 = v6 at *
        generalize f 9 = v9 at *
        generalize f 12 = v12 at *
        generalize f 13 = v13 at *
        generalize f 14 = v14 at *
        generalize f 15 = v15 at *
        obtain ⟨g6, a6, l6, c6, aa6, ll6, cc6, rfl, i6⟩ := h6
        obtain ⟨g13, a13, l13, c13, aa13, ll13, cc13, rfl, i13⟩ := h13
        go_simp
        (with_reducible refine Calls.cQ (numSubC (by omega)) ?_); intros
        refine hK.out _ _ _ rfl (inferInstance : Kp W _).out ?_ ?_
        · exact phiQ.fin rfl (by omega)
        · exact fun h => absurd h (by decide)
      · refine ⟨_, by simp; rfl, fun K' hK => ?_⟩
        clear hp
        simp only [putAll, Act.put, List.setIfInBounds_toArray, List.set_cons_zero, List.set_cons_succ] at hK ⊢
        generalize f 2 = v2 at *
        generalize f 5 = v5 at *
        generalize f 6 = v6 at *
        generalize f 9 = v9 at *
        generalize f 12 = v12 at *
        generalize f 13 = v13 at *
        generalize f 14 = v14 at *
        generalize f 15 = v15 at *
        go_simp
        refine hK.out _ _ _ rfl (inferInstance : Kp W _).out ?_ ?_
        · exact phiB.fin
        · exact fun _ => ⟨_, rfl, Nat.le_refl _⟩
    · intro f W hSw hbw hf hne
      have kw := Kp1.mk hbw
      have hSx := Ex1.mk hSw
      clear hHeld
      have kv := kpOf ew (W := W)
      have kz : Kz w0 W := ⟨kv.out.size⟩
      have h2 : phiQ (((la : Int) : Rat)) k1x (f 2) W := hf 2 (by decide)
      have h5 : phiQ (((mb : Int) : Rat)) k2y (f 5) W := hf 5 (by decide)
      have h6 : phiQ (((la : Int) : Rat) * ((mb : Int) : Rat)) (k1x + k2y + 4) (f 6) W := hf 6 (by decide)
      have h9 : phiQ (((ma : Int) : Rat)) k2x (f 9) W := hf 9 (by decide)
      have h12 : phiQ (((lb : Int) : Rat)) k1y (f 12) W := hf 12 (by decide)
      have h13 : phiQ (((ma : Int) : Rat) * ((lb : Int) : Rat)) (k2x + k1y + 4) (f 13) W := hf 13 (by decide)
      have h14 : phiQ (((la : Int) : Rat) * ((mb : Int) : Rat) - ((ma : Int) : Rat) * ((lb : Int) : Rat)) (k1x + k1y + k1z + k2x + k2y + k2z + 20) (f 14) W := hf 14 (by decide)
      have h15 : phiB w0 46 [.bool false, .slice none 0 0, .slice none 0 0] (f 15) W := hf 15 (by decide)
      clear hf hne
      simp only [putAll, lset, List.map_cons, List.map_nil, Act.put, List.setIfInBounds_toArray, List.set_cons_zero, List.set_cons_succ]
      generalize f 2 = v2 at *
      generalize f 5 = v5 at *
      generalize f 6 = v6 at *
      generalize f 9 = v9 at *
      generalize f 12 = v12 at *
      generalize f 13 = v13 at *
      generalize f 14 = v14 at *
      generalize f 15 = v15 at *
      obtain ⟨g2, a2, l2, c2, aa2, ll2, cc2, rfl, i2⟩ := h2
      obtain ⟨g5, a5, l5, c5, aa5, ll5, cc5, rfl, i5⟩ := h5
      obtain ⟨g6, a6, l6, c6, aa6, ll6, cc6, rfl, i6⟩ := h6
      obtain ⟨g9, a9, l9, c9, aa9, ll9, cc9, rfl, i9⟩ := h9
      obtain ⟨g12, a12, l12, c12, aa12, ll12, cc12, rfl, i12⟩ := h12
      obtain ⟨g13, a13, l13, c13, aa13, ll13, cc13, rfl, i13⟩ := h13
      obtain ⟨g14, a14, l14, c14, aa14, ll14, cc14, rfl, i14⟩ := h14
      obtain ⟨b15, rfl, i15, j15, k15⟩ := h15
      have nw15 := nwOf ew j15
      have gg15 := ggOf ew k15
      have gl15 : Ge w b15 := ⟨by have h2 := j15.out; rw [ew.out] at h2; exact Nat.le_trans (inferInstance : Kp w _).out.size h2⟩
      have ge15 := geOf ew j15
      have hHeld := hSw
      refine st 16 fun K hK => ?_
      go_simp
      refine hd hK ?_
      clear hHeld hK K
      intro hHeld
      refine dn ?_
      clear hHeld
      go_wp2_with fail
      go_meet
      exact ⟨_, _, _, _, _, _, _, _, rfl, inferInstance, inferInstance, inferInstance⟩
  case rest =>
   obtain ⟨b6, g6, a6, l6, c6, aa6, ll6, cc6, rfl, i1, i2, ⟨i3⟩⟩ := hcut
   have i4 := Kp1.mk i3
   have i5 : Kp w wc := inferInstance
   go_upto_region 4 with (first | (go_at_call 29; (with_reducible refine Calls.cE (numSV HS) ?_); intros))
   go_cut [7] from 28 to 42 (fun t wx => ∃ (b7 : Nat) (g7 : Bool) (a7 : Option Addr) (l7 c7 : Nat) (aa7 : Option Addr) (ll7 cc7 : Nat), t = .pointer (some ⟨b7, 0, none⟩) ∧ Bx wx b7 46 [.bool g7, .slice a7 l7 c7, .slice aa7 ll7 cc7] ∧ CQ wx (.agg #[.bool g7, .slice a7 l7 c7, .slice aa7 ll7 cc7]) (((lb : Int) : Rat) * ((mc : Int) : Rat) - ((mb : Int) : Rat) * ((lc : Int) : Rat)) (k1x + k1y + k1z + k2x + k2y + k2z + 20) ∧ Kp wc wx)
   case first =>
    refine rgnW [] [] fun w0 ew hHeld => ?_
    refine tk 0 hHeld ?_
    refine tk 1 hHeld ?_
    refine tk 3 hHeld ?_
    refine tk 4 hHeld ?_
    refine tk 7 hHeld ?_
    refine tk 8 hHeld ?_
    refine tk 10 hHeld ?_
    refine tk 11 hHeld ?_
    refine wpAnyT_inv [(2, 30), (5, 33), (6, 34), (9, 37), (12, 40), (13, 41), (14, 42), (15, 7)] (fun i => match i with | 2 => [] | 5 => [2] | 6 => [2, 5] | 9 => [6] | 12 => [9] | 13 => [9, 12] | 14 => [6, 13] | 15 => [] | _ => []) [phiQ (((lb : Int) : Rat)) k1y, phiQ (((mc : Int) : Rat)) k2z, phiQ (((lb : Int) : Rat) * ((mc : Int) : Rat)) (k1y + k2z + 4), phiQ (((mb : Int) : Rat)) k2y, phiQ (((lc : Int) : Rat)) k1z, phiQ (((mb : Int) : Rat) * ((lc : Int) : Rat)) (k2y + k1z + 4), phiQ (((lb : Int) : Rat) * ((mc : Int) : Rat) - ((mb : Int) : Rat) * ((lc : Int) : Rat)) (k1x + k1y + k1z + k2x + k2y + k2z + 20), phiB w0 46 [.bool false, .slice none 0 0, .slice none 0 0]] [15] 1 (by rfl) (by decide +kernel) (by decide) (by decide) (by kernel_rfl) ?_ (fun _ _ => Ex.below) hHeld ?_ ?_
    · intro i hi v W h
      simp only [List.mem_cons, List.not_mem_nil, or_false] at hi
      rcases hi with rfl
      all_goals exact phiB.old h
    · intro i hi f W hSw hbw hp
      have kw := Kp1.mk hbw
      have kv := kpOf ew (W := W)
      have kz : Kz w0 W := ⟨kv.out.size⟩
      have hSx := Ex1.mk hSw
      clear hHeld
      simp only [List.map_cons, List.map_nil, List.mem_cons, List.not_mem_nil, or_false] at hi
      rcases hi with rfl | rfl | rfl | rfl | rfl | rfl | rfl | rfl
      · refine ⟨_, by simp; rfl, fun K' hK => ?_⟩
        clear hp
        simp only [putAll, Act.put, List.setIfInBounds_toArray, List.set_cons_zero, List.set_cons_succ] at hK ⊢
        generalize f 2 = v2 at *
        generalize f 5 = v5 at *
        generalize f 6 = v6 at *
        generalize f 9 = v9 at *
        generalize f 12 = v12 at *
        generalize f 13 = v13 at *
        generalize f 14 = v14 at *
        generalize f 15 = v15 at *
        go_simp
        (with_reducible refine Calls.cQ (refqC) ?_); intros
        refine hK.out _ _ _ rfl (inferInstance : Kp W _).out ?_ ?_
        · exact phiQ.fin rfl (by omega)
        · exact fun h => absurd h (by decide)
      · have h2 : phiQ (((lb : Int) : Rat)) k1y (f 2) W := hp 2 (by decide)
        refine ⟨_, by simp; rfl, fun K' hK => ?_⟩
        clear hp
        simp only [putAll, Act.put, List.setIfInBounds_toArray, List.set_cons_zero, List.set_cons_succ] at hK ⊢
        generalize f 2 = v2 at *
        generalize f 5 = v5 at *
        generalize f 6 = v6 at *
        generalize f 9 = v9 at *
        generalize f 12 = v12 at *
        generalize f 13 = v13 at *
        generalize f 14 = v14 at *
        generalize f 15 = v15 at *
        obtain ⟨g2, a2, l2, c2, aa2, ll2, cc2, rfl, i2⟩ := h2
        go_simp
        (with_reducible refine Calls.cQ (refqC) ?_); intros
        refine hK.out _ _ _ rfl (inferInstance : Kp W _).out ?_ ?_
        · exact phiQ.fin rfl (by omega)
        · exact fun h => absurd h (by decide)
      · have h2 : phiQ (((lb : Int) : Rat)) k1y (f 2) W := hp 2 (by decide)
        have h5 : phiQ (((mc : Int) : Rat)) k2z (f 5) W := hp 5 (by decide)
        refine ⟨_, by simp; rfl, fun K' hK => ?_⟩
        clear hp
        simp only [putAll, Act.put, List.setIfInBounds_toArray, List.set_cons_zero, List.set_cons_succ] at hK ⊢
        generalize f 2 = v2 at *
        generalize f 5 = v5 at *
        generalize f 6 = v6 at *
        generalize f 9 = v9 at *
        generalize f 12 = v12 at *
        generalize f 13 = v13 at *
        generalize f 14 = v14 at *
        generalize f 15 = v15 at *
        obtain ⟨g2, a2, l2, c2, aa2, ll2, cc2, rfl, i2⟩ := h2
        obtain ⟨g5, a5, l5, c5, aa5, ll5, cc5, rfl, i5⟩ := h5
        go_simp
        (with_reducible refine Calls.cQ (numTimesC (by omega)) ?_); intros
        refine hK.out _ _ _ rfl (inferInstance : Kp W _).out ?_ ?_
        · exact phiQ.fin rfl (by omega)
        · exact fun h => absurd h (by decide)
      · have h6 : phiQ (((lb : Int) : Rat) * ((mc : Int) : Rat)) (k1y + k2z + 4) (f 6) W := hp 6 (by decide)
        refine ⟨_, by simp; rfl, fun K' hK => ?_⟩
        clear hp
        simp only [putAll, Act.put, List.setIfInBounds_toArray, List.set_cons_zero, List.set_cons_succ] at hK ⊢
        generalize f 2 = v2 at *
        generalize f 5 = v5 at *
        generalize f 6 = v6 at *
        generalize f 9 = v9 at *
        generalize f 12 = v12 at *
        generalize f 13 = v13 at *
        generalize f 14 = v14 at *
        generalize f 15 = v15 at *
        obtain ⟨g6, a6, l6, c6, aa6, ll6, cc6, rfl, i6⟩ := h6
        go_simp
        (with_reducible refine Calls.cQ (refqC) ?_); intros
        refine hK.out _ _ _ rfl (inferInstance : Kp W _).out ?_ ?_
        · exact phiQ.fin rfl (by omega)
        · exact fun h => absurd h (by decide)
      · have h9 : phiQ (((mb : Int) : Rat)) k2y (f 9) W := hp 9 (by decide)
        refine ⟨_, by simp; rfl, fun K' hK => ?_⟩
        clear hp
        simp only [putAll, Act.put, List.setIfInBounds_toArray, List.set_cons_zero, List.set_cons_succ] at hK ⊢
        generalize f 2 = v2 at *
        generalize f 5 = v5 at *
        generalize f 6 = v6 at *
        generalize f 9 = v9 at *
        generalize f 12 = v12 at *
        generalize f 13 = v13 at *
        generalize f 14 = v14 at *
        generalize f 15 = v15 at *
        obtain ⟨g9, a9, l9, c9, aa9, ll9, cc9, rfl, i9⟩ := h9
        go_simp
        (with_reducible refine Calls.cQ (refqC) ?_); intros
        refine hK.out _ _ _ rfl (inferInstance : Kp W _).out ?_ ?_
        · exact phiQ.fin rfl (by omega)
        · exact fun h => absurd h (by decide)
      · have h9 : phiQ (((mb : Int) : Rat)) k2y (f 9) W := hp 9 (by decide)
        have h12 : phiQ (((lc : Int) : Rat)) k1z (f 12) W := hp 12 (by decide)
        refine ⟨_, by simp; rfl, fun K' hK => ?_⟩
        clear hp
        simp only [putAll, Act.put, List.setIfInBounds_toArray, List.set_cons_zero, List.set_cons_succ] at hK ⊢
        generalize f 2 = v2 at *
        generalize f 5 = v5 at *
        generalize f 6 = v6 at *
        generalize f 9 = v9 at *
        generalize f 12 = v12 at *
        generalize f 13 = v13 at *
        generalize f 14 = v14 at *
        generalize f 15 = v15 at *
        obtain ⟨g9, a9, l9, c9, aa9, ll9, cc9, rfl, i9⟩ := h9
        obtain ⟨g12, a12, l12, c12, aa12, ll12, cc12, rfl, i12⟩ := h12
        go_simp
        (with_reducible refine Calls.cQ (numTimesC (by omega)) ?_); intros
        refine hK.out _ _ _ rfl (inferInstance : Kp W _).out ?_ ?_
        · exact phiQ.fin rfl (by omega)
        · exact fun h => absurd h (by decide)
      · have h6 : phiQ (((lb : Int) : Rat) * ((mc : Int) : Rat)) (k1y + k2z + 4) (f 6) W := hp 6 (by decide)
        have h13 : phiQ (((mb : Int) : Rat) * ((lc : Int) : Rat)) (k2y + k1z + 4) (f 13) W := hp 13 (by decide)
        refine ⟨_, by simp; rfl, fun K' hK => ?_⟩
        clear hp
        simp only [putAll, Act.put, List.setIfInBounds_toArray, List.set_cons_zero, List.set_cons_succ] at hK ⊢
        generalize f 2 = v2 at *
        generalize f 5 = v5 at *
        generalize f 6 = v6 at *
        generalize f 9 = v9 at *
        generalize f 12 = v12 at *
        generalize f 13 = v13 at *
        generalize f 14 = v14 at *
        generalize f 15 = v15 at *
        obtain ⟨g6, a6, l6, c6, aa6, ll6, cc6, rfl, i6⟩ := h6
        obtain ⟨g13, a13, l13, c13, aa13, ll13, cc13, rfl, i13⟩ := h13
        go_simp
        (with_reducible refine Calls.cQ (numSubC (by omega)) ?_); intros
        refine hK.out _ _ _ rfl (inferInstance : Kp W _).out ?_ ?_
        · exact phiQ.fin rfl (by omega)
        · exact fun h => absurd h (by decide)
      · refine ⟨_, by simp; rfl, fun K' hK => ?_⟩
        clear hp
        simp only [putAll, Act.put, List.setIfInBounds_toArray, List.set_cons_zero, List.set_cons_succ] at hK ⊢
        generalize f 2 = v2 at *
        generalize f 5 = v5 at *
        generalize f 6 = v6 at *
        generalize f 9 = v9 at *
        generalize f 12 = v12 at *
        generalize f 13 = v13 at *
        generalize f 14 = v14 at *
        generalize f 15 = v15 at *
        go_simp
        refine hK.out _ _ _ rfl (inferInstance : Kp W _).out ?_ ?_
        · exact phiB.fin
        · exact fun _ => ⟨_, rfl, Nat.le_refl _⟩
    · intro f W hSw hbw hf hne
      have kw := Kp1.mk hbw
      have hSx := Ex1.mk hSw
      clear hHeld
      have kv := kpOf ew (W := W)
      have kz : Kz w0 W := ⟨kv.out.size⟩
      have h2 : phiQ (((lb : Int) : Rat)) k1y (f 2) W := hf 2 (by decide)
      have h5 : phiQ (((mc : Int) : Rat)) k2z (f 5) W := hf 5 (by decide)
      have h6 : phiQ (((lb : Int) : Rat) * ((mc : Int) : Rat)) (k1y + k2z + 4) (f 6) W := hf 6 (by decide)
      have h9 : phiQ (((mb : Int) : Rat)) k2y (f 9) W := hf 9 (by decide)
      have h12 : phiQ (((lc : Int) : Rat)) k1z (f 12) W := hf 12 (by decide)
      have h13 : phiQ (((mb : Int) : Rat) * ((lc : Int) : Rat)) (k2y + k1z + 4) (f 13) W := hf 13 (by decide)
      have h14 : phiQ (((lb : Int) : Rat) * ((mc : Int) : Rat) - ((mb : Int) : Rat) * ((lc : Int) : Rat)) (k1x + k1y + k1z + k2x + k2y + k2z + 20) (f 14) W := hf 14 (by decide)
      have h15 : phiB w0 46 [.bool false, .slice none 0 0, .slice none 0 0] (f 15) W := hf 15 (by decide)
      clear hf hne
      simp only [putAll, lset, List.map_cons, List.map_nil, Act.put, List.setIfInBounds_toArray, List.set_cons_zero, List.set_cons_succ]
      generalize f 2 = v2 at *
      generalize f 5 = v5 at *
      generalize f 6 = v6 at *
      generalize f 9 = v9 at *
      generalize f 12 = v12 at *
      generalize f 13 = v13 at *
      generalize f 14 = v14 at *
      generalize f 15 = v15 at *
      obtain ⟨g2, a2, l2, c2, aa2, ll2, cc2, rfl, i2⟩ := h2
      obtain ⟨g5, a5, l5, c5, aa5, ll5, cc5, rfl, i5⟩ := h5
      obtain ⟨g6, a6, l6, c6, aa6, ll6, cc6, rfl, i6⟩ := h6
      obtain ⟨g9, a9, l9, c9, aa9, ll9, cc9, rfl, i9⟩ := h9
      obtain ⟨g12, a12, l12, c12, aa12, ll12, cc12, rfl, i12⟩ := h12
      obtain ⟨g13, a13, l13, c13, aa13, ll13, cc13, rfl, i13⟩ := h13
      obtain ⟨g14, a14, l14, c14, aa14, ll14, cc14, rfl, i14⟩ := h14
      obtain ⟨b15, rfl, i15, j15, k15⟩ := h15
      have nw15 := nwOf ew j15
      have gg15 := ggOf ew k15
      have gl15 : Ge w b15 := ⟨by have h2 := j15.out; rw [ew.out] at h2; exact Nat.le_trans (inferInstance : Kp w _).out.size h2⟩
      have ge15 : Ge wc b15 := ⟨by have h2 := (geOf ew j15).out; exact Nat.le_trans (inferInstance : Kp wc _).out.size h2⟩
      have hHeld := hSw
      refine st 16 fun K hK => ?_
      go_simp
      refine hd hK ?_
      clear hHeld hK K
      intro hHeld
      refine dn ?_
      clear hHeld
      go_wp2_with fail
      go_meet
      exact ⟨_, _, _, _, _, _, _, _, rfl, inferInstance, inferInstance, inferInstance⟩
   case rest =>
    obtain ⟨b7, g7, a7, l7, c7, aa7, ll7, cc7, rfl, j1, j2, ⟨j3⟩⟩ := hcut
    have j4 := Kp1.mk j3
    have j5 : Kp w wc := inferInstance
    go_upto_region 5 with fail
    go_cut [8] from 43 to 57 (fun t wx => ∃ (b8 : Nat) (g8 : Bool) (a8 : Option Addr) (l8 c8 : Nat) (aa8 : Option Addr) (ll8 cc8 : Nat), t = .pointer (some ⟨b8, 0, none⟩) ∧ Bx wx b8 46 [.bool g8, .slice a8 l8 c8, .slice aa8 ll8 cc8] ∧ CQ wx (.agg #[.bool g8, .slice a8 l8 c8, .slice aa8 ll8 cc8]) (((ma : Int) : Rat) * ((lc : Int) : Rat) - ((la : Int) : Rat) * ((mc : Int) : Rat)) (k1x + k1y + k1z + k2x + k2y + k2z + 20) ∧ Kp wc wx)
    case first =>
     refine rgnW [] [] fun w0 ew hHeld => ?_
     refine tk 0 hHeld ?_
     refine tk 1 hHeld ?_
     refine tk 3 hHeld ?_
     refine tk 4 hHeld ?_
     refine tk 7 hHeld ?_
     refine tk 8 hHeld ?_
     refine tk 10 hHeld ?_
     refine tk 11 hHeld ?_
     refine wpAnyT_inv [(2, 45), (5, 48), (6, 49), (9, 52), (12, 55), (13, 56), (14, 57), (15, 8)] (fun i => match i with | 2 => [] | 5 => [2] | 6 => [2, 5] | 9 => [6] | 12 => [9] | 13 => [9, 12] | 14 => [6, 13] | 15 => [] | _ => []) [phiQ (((ma : Int) : Rat)) k2x, phiQ (((lc : Int) : Rat)) k1z, phiQ (((ma : Int) : Rat) * ((lc : Int) : Rat)) (k2x + k1z + 4), phiQ (((la : Int) : Rat)) k1x, phiQ (((mc : Int) : Rat)) k2z, phiQ (((la : Int) : Rat) * ((mc : Int) : Rat)) (k1x + k2z + 4), phiQ (((ma : Int) : Rat) * ((lc : Int) : Rat) - ((la : Int) : Rat) * ((mc : Int) : Rat)) (k1x + k1y + k1z + k2x + k2y + k2z + 20), phiB w0 46 [.bool false, .slice none 0 0, .slice none 0 0]] [15] 1 (by rfl) (by decide +kernel) (by decide) (by decide) (by kernel_rfl) ?_ (fun _ _ => Ex.below) hHeld ?_ ?_
     · intro i hi v W h
       simp only [List.mem_cons, List.not_mem_nil, or_false] at hi
       rcases hi with rfl
       all_goals exact phiB.old h
     · intro i hi f W hSw hbw hp
       have kw := Kp1.mk hbw
       have kv := kpOf ew (W := W)
       have kz : Kz w0 W := ⟨kv.out.size⟩
       have hSx := Ex1.mk hSw
       clear hHeld
       simp only [List.map_cons, List.map_nil, List.mem_cons, List.not_mem_nil, or_false] at hi
       rcases hi with rfl | rfl | rfl | rfl | rfl | rfl | rfl | rfl
       · refine ⟨_, by simp; rfl, fun K' hK => ?_⟩
         clear hp
         simp only [putAll, Act.put, List.setIfInBounds_toArray, List.set_cons_zero, List.set_cons_succ] at hK ⊢
         generalize f 2 = v2 at *
         generalize f 5 = v5 at *
         generalize f 6 = v6 at *
         generalize f 9 = v9 at *
         generalize f 12 = v12 at *
         generalize f 13 = v13 at *
         generalize f 14 = v14 at *
         generalize f 15 = v15 at *
         go_simp
         (with_reducible refine Calls.cQ (refqC) ?_); intros
         refine hK.out _ _ _ rfl (inferInstance : Kp W _).out ?_ ?_
         · exact phiQ.fin rfl (by omega)
         · exact fun h => absurd h (by decide)
       · have h2 : phiQ (((ma : Int) : Rat)) k2x (f 2) W := hp 2 (by decide)
         refine ⟨_, by simp; rfl, fun K' hK => ?_⟩
         clear hp
         simp only [putAll, Act.put, List.setIfInBounds_toArray, List.set_cons_zero, List.set_cons_succ] at hK ⊢
         generalize f 2 = v2 at *
         generalize f 5 = v5 at *
         generalize f 6 = v6 at *
         generalize f 9 = v9 at *
         generalize f 12 = v12 at *
         generalize f 13 = v13 at *
         generalize f 14 = v14 at *
         generalize f 15 = v15 at *
         obtain ⟨g2, a2, l2, c2, aa2, ll2, cc2, rfl, i2⟩ := h2
         go_simp
         (with_reducible refine Calls.cQ (refqC) ?_); intros
         refine hK.out _ _ _ rfl (inferInstance : Kp W _).out ?_ ?_
         · exact phiQ.fin rfl (by omega)
         · exact fun h => absurd h (by decide)
       · have h2 : phiQ (((ma : Int) : Rat)) k2x (f 2) W := hp 2 (by decide)
         have h5 : phiQ (((lc : Int) : Rat)) k1z (f 5) W := hp 5 (by decide)
         refine ⟨_, by simp; rfl, fun K' hK => ?_⟩
         clear hp
         simp only [putAll, Act.put, List.setIfInBounds_toArray, List.set_cons_zero, List.set_cons_succ] at hK ⊢
         generalize f 2 = v2 at *
         generalize f 5 = v5 at *
         generalize f 6 = v6 at *
         generalize f 9 = v9 at *
         generalize f 12 = v12 at *
         generalize f 13 = v13 at *
         generalize f 14 = v14 at *
         generalize f 15 = v15 at *
         obtain ⟨g2, a2, l2, c2, aa2, ll2, cc2, rfl, i2⟩ := h2
         obtain ⟨g5, a5, l5, c5, aa5, ll5, cc5, rfl, i5⟩ := h5
         go_simp
         (with_reducible refine Calls.cQ (numTimesC (by omega)) ?_); intros
         refine hK.out _ _ _ rfl (inferInstance : Kp W _).out ?_ ?_
         · exact phiQ.fin rfl (by omega)
         · exact fun h => absurd h (by decide)
       · have h6 : phiQ (((ma : Int) : Rat) * ((lc : Int) : Rat)) (k2x + k1z + 4) (f 6) W := hp 6 (by decide)
         refine ⟨_, by simp; rfl, fun K' hK => ?_⟩
         clear hp
         simp only [putAll, Act.put, List.setIfInBounds_toArray, List.set_cons_zero, List.set_cons_succ] at hK ⊢
         generalize f 2 = v2 at *
         generalize f 5 = v5 at *
         generalize f 6 = v6 at *
         generalize f 9 = v9 at *
         generalize f 12 = v12 at *
         generalize f 13 = v13 at *
         generalize f 14 = v14 at *
         generalize f 15 = v15 at *
         obtain ⟨g6, a6, l6, c6, aa6, ll6, cc6, rfl, i6⟩ := h6
         go_simp
         (with_reducible refine Calls.cQ (refqC) ?_); intros
         refine hK.out _ _ _ rfl (inferInstance : Kp W _).out ?_ ?_
         · exact phiQ.fin rfl (by omega)
         · exact fun h => absurd h (by decide)
       · have h9 : phiQ (((la : Int) : Rat)) k1x (f 9) W := hp 9 (by decide)
         refine ⟨_, by simp; rfl, fun K' hK => ?_⟩
         clear hp
         simp only [putAll, Act.put, List.setIfInBounds_toArray, List.set_cons_zero, List.set_cons_succ] at hK ⊢
         generalize f 2 = v2 at *
         generalize f 5 = v5 at *
         generalize f 6 = v6 at *
         generalize f 9 = v9 at *
         generalize f 12 = v12 at *
         generalize f 13 = v13 at *
         generalize f 14 = v14 at *
         generalize f 15 = v15 at *
         obtain ⟨g9, a9, l9, c9, aa9, ll9, cc9, rfl, i9⟩ := h9
         go_simp
         (with_reducible refine Calls.cQ (refqC) ?_); intros
         refine hK.out _ _ _ rfl (inferInstance : Kp W _).out ?_ ?_
         · exact phiQ.fin rfl (by omega)
         · exact fun h => absurd h (by decide)
       · have h9 : phiQ (((la : Int) : Rat)) k1x (f 9) W := hp 9 (by decide)
         have h12 : phiQ (((mc : Int) : Rat)) k2z (f 12) W := hp 12 (by decide)
         refine ⟨_, by simp; rfl, fun K' hK => ?_⟩
         clear hp
         simp only [putAll, Act.put, List.setIfInBounds_toArray, List.set_cons_zero, List.set_cons_succ] at hK ⊢
         generalize f 2 = v2 at *
         generalize f 5 = v5 at *
         generalize f 6 = v6 at *
         generalize f 9 = v9 at *
         generalize f 12 = v12 at *
         generalize f 13 = v13 at *
         generalize f 14 = v14 at *
         generalize f 15 = v15 at *
         obtain ⟨g9, a9, l9, c9, aa9, ll9, cc9, rfl, i9⟩ := h9
         obtain ⟨g12, a12, l12, c12, aa12, ll12, cc12, rfl, i12⟩ := h12
         go_simp
         (with_reducible refine Calls.cQ (numTimesC (by omega)) ?_); intros
         refine hK.out _ _ _ rfl (inferInstance : Kp W _).out ?_ ?_
         · exact phiQ.fin rfl (by omega)
         · exact fun h => absurd h (by decide)
       · have h6 : phiQ (((ma : Int) : Rat) * ((lc : Int) : Rat)) (k2x + k1z + 4) (f 6) W := hp 6 (by decide)
         have h13 : phiQ (((la : Int) : Rat) * ((mc : Int) : Rat)) (k1x + k2z + 4) (f 13) W := hp 13 (by decide)
         refine ⟨_, by simp; rfl, fun K' hK => ?_⟩
         clear hp
         simp only [putAll, Act.put, List.setIfInBounds_toArray, List.set_cons_zero, List.set_cons_succ] at hK ⊢
         generalize f 2 = v2 at *
         generalize f 5 = v5 at *
         generalize f 6 = v6 at *
         generalize f 9 = v9 at *
         generalize f 12 = v12 at *
         generalize f 13 = v13 at *
         generalize f 14 = v14 at *
         generalize f 15 = v15 at *
         obtain ⟨g6, a6, l6, c6, aa6, ll6, cc6, rfl, i6⟩ := h6
         obtain ⟨g13, a13, l13, c13, aa13, ll13, cc13, rfl, i13⟩ := h13
         go_simp
         (with_reducible refine Calls.cQ (numSubC (by omega)) ?_); intros
         refine hK.out _ _ _ rfl (inferInstance : Kp W _).out ?_ ?_
         · exact phiQ.fin rfl (by omega)
         · exact fun h => absurd h (by decide)
       · refine ⟨_, by simp; rfl, fun K' hK => ?_⟩
         clear hp
         simp only [putAll, Act.put, List.setIfInBounds_toArray, List.set_cons_zero, List.set_cons_succ] at hK ⊢
         generalize f 2 = v2 at *
         generalize f 5 = v5 at *
         generalize f 6 = v6 at *
         generalize f 9 = v9 at *
         generalize f 12 = v12 at *
         generalize f 13 = v13 at *
         generalize f 14 = v14 at *
         generalize f 15 = v15 at *
         go_simp
         refine hK.out _ _ _ rfl (inferInstance : Kp W _).out ?_ ?_
         · exact phiB.fin
         · exact fun _ => ⟨_, rfl, Nat.le_refl _⟩
     · intro f W hSw hbw hf hne
       have kw := Kp1.mk hbw
       have hSx := Ex1.mk hSw
       clear hHeld
       have kv := kpOf ew (W := W)
       have kz : Kz w0 W := ⟨kv.out.size⟩
       have h2 : phiQ (((ma : Int) : Rat)) k2x (f 2) W := hf 2 (by decide)
       have h5 : phiQ (((lc : Int) : Rat)) k1z (f 5) W := hf 5 (by decide)
       have h6 : phiQ (((ma : Int) : Rat) * ((lc : Int) : Rat)) (k2x + k1z + 4) (f 6) W := hf 6 (by decide)
       have h9 : phiQ (((la : Int) : Rat)) k1x (f 9) W := hf 9 (by decide)
       have h12 : phiQ (((mc : Int) : Rat)) k2z (f 12) W := hf 12 (by decide)
       have h13 : phiQ (((la : Int) : Rat) * ((mc : Int) : Rat)) (k1x + k2z + 4) (f 13) W := hf 13 (by decide)
       have h14 : phiQ (((ma : Int) : Rat) * ((lc : Int) : Rat) - ((la : Int) : Rat) * ((mc : Int) : Rat)) (k1x + k1y + k1z + k2x + k2y + k2z + 20) (f 14) W := hf 14 (by decide)
       have h15 : phiB w0 46 [.bool false, .slice none 0 0, .slice none 0 0] (f 15) W := hf 15 (by decide)
       clear hf hne
       simp only [putAll, lset, List.map_cons, List.map_nil, Act.put, List.setIfInBounds_toArray, List.set_cons_zero, List.set_cons_succ]
       generalize f 2 = v2 at *
       generalize f 5 = v5 at *
       generalize f 6 = v6 at *
       generalize f 9 = v9 at *
       generalize f 12 = v12 at *
       generalize f 13 = v13 at *
       generalize f 14 = v14 at *
       generalize f 15 = v15 at *
       obtain ⟨g2, a2, l2, c2, aa2, ll2, cc2, rfl, i2⟩ := h2
       obtain ⟨g5, a5, l5, c5, aa5, ll5, cc5, rfl, i5⟩ := h5
       obtain ⟨g6, a6, l6, c6, aa6, ll6, cc6, rfl, i6⟩ := h6
       obtain ⟨g9, a9, l9, c9, aa9, ll9, cc9, rfl, i9⟩ := h9
       obtain ⟨g12, a12, l12, c12, aa12, ll12, cc12, rfl, i12⟩ := h12
       obtain ⟨g13, a13, l13, c13, aa13, ll13, cc13, rfl, i13⟩ := h13
       obtain ⟨g14, a14, l14, c14, aa14, ll14, cc14, rfl, i14⟩ := h14
       obtain ⟨b15, rfl, i15, j15, k15⟩ := h15
       have nw15 := nwOf ew j15
       have gg15 := ggOf ew k15
       have gl15 : Ge w b15 := ⟨by have h2 := j15.out; rw [ew.out] at h2; exact Nat.le_trans (inferInstance : Kp w _).out.size h2⟩
       have ge15 := geOf ew j15
       have hHeld := hSw
       refine st 16 fun K hK => ?_
       go_simp
       refine hd hK ?_
       clear hHeld hK K
       intro hHeld
       refine dn ?_
       clear hHeld
       go_wp2_with fail
       go_meet
       exact ⟨_, _, _, _, _, _, _, _, rfl, inferInstance, inferInstance, inferInstance⟩
    case rest =>
     obtain ⟨b8, g8, a8, l8, c8, aa8, ll8, cc8, rfl, l1, l2, ⟨l3⟩⟩ := hcut
     have l4 := Kp1.mk l3
     have l5 : Kp w wc := inferInstance
     go_wp2_with fail
     refine rgn [] [7, 8] fun hHeld => ?_
     refine tk 0 hHeld ?_
     refine tk 1 hHeld ?_
     refine tk 3 hHeld ?_
     refine tk 4 hHeld ?_
     refine st 2 fun K hK => ?_
     go_simp
     (with_reducible refine Calls.cQ (numOverC (by omega) HN.out) ?_); intros
     refine hd hK ?_
     clear hHeld hK K
     intro hHeld
     refine st 5 fun K hK => ?_
     go_simp
     (with_reducible refine Calls.cQ (numOverC (by omega) HN.out) ?_); intros
     refine hd hK ?_
     clear hHeld hK K
     intro hHeld
     refine tk 6 hHeld ?_
     refine st 7 fun K hK => ?_
     go_simp
     refine hdT hK ?_
     clear hK K
     refine tk0 8 ?_
     refine dn ?_
     clear hHeld
     go_wp2_with fail
     refine ret_bt rfl Tryz.underlying48 rfl (by kernel_rfl) rfl rfl rfl ?_
     exact PQBRet.fin rfl (by omega) rfl (by omega)

theorem refMeetNo {w : World} {g1x g1y g1z g2x g2y g2z : Bool} {a1x a1y a1z a2x a2y a2z : Option Addr} {l1x c1x l1y c1y l1z c1z l2x c2x l2y c2y l2z c2z k1x k1y k1z k2x k2y k2z : Nat} {la lb lc ma mb mc : Int} [h1x : CZ w (.agg #[.bool g1x, .slice a1x l1x c1x]) la k1x] [h1y : CZ w (.agg #[.bool g1y, .slice a1y l1y c1y]) lb k1y] [h1z : CZ w (.agg #[.bool g1z, .slice a1z l1z c1z]) lc k1z] [h2x : CZ w (.agg #[.bool g2x, .slice a2x l2x c2x]) ma k2x] [h2y : CZ w (.agg #[.bool g2y, .slice a2y l2y c2y]) mb k2y] [h2z : CZ w (.agg #[.bool g2z, .slice a2z l2z c2z]) mc k2z] (b : k1x ≤ 3000 ∧ k1y ≤ 3000 ∧ k1z ≤ 3000 ∧ k2x ≤ 3000 ∧ k2y ≤ 3000 ∧ k2z ≤ 3000) (HZ : Hid (decide (((la : Int) : Rat) * ((mb : Int) : Rat) - ((lb : Int) : Rat) * ((ma : Int) : Rat) = 0) = true)) :
    Calls Tryz.prog 42 #[.agg #[.bool g1x, .slice a1x l1x c1x, .bool g1y, .slice a1y l1y c1y, .bool g1z, .slice a1z l1z c1z], .agg #[.bool g2x, .slice a2x l2x c2x, .bool g2y, .slice a2y l2y c2y, .bool g2z, .slice a2z l2z c2z]] w (PQBRet w 0 0 false (3 * (k1x + k1y + k1z + k2x + k2y + k2z) + 100)) := by
  have HS : Hid (isgn (((la : Int) : Rat) * ((mb : Int) : Rat) - ((ma : Int) : Rat) * ((lb : Int) : Rat)).num = 0) := by
    have h := of_decide_eq_true HZ.out
    refine Lib.hid (isg_zero.2 ?_)
    rw [Rat.mul_comm ((ma : Int) : Rat)]; exact h
  go_enter Tryz.func42, Tryz.ntmps42
  go_upto_region 1 with fail
  go_cut [6] from 9 to 23 (fun t wx => ∃ (b6 : Nat) (g6 : Bool) (a6 : Option Addr) (l6 c6 : Nat) (aa6 : Option Addr) (ll6 cc6 : Nat), t = .pointer (some ⟨b6, 0, none⟩) ∧ Bx wx b6 46 [.bool g6, .slice a6 l6 c6, .slice aa6 ll6 cc6] ∧ CQ wx (.agg #[.bool g6, .slice a6 l6 c6, .slice aa6 ll6 cc6]) (((la : Int) : Rat) * ((mb : Int) : Rat) - ((ma : Int) : Rat) * ((lb : Int) : Rat)) (k1x + k1y + k1z + k2x + k2y + k2z + 20) ∧ Kp (((w.alloc (.cells #[.bool g1x, .slice a1x l1x c1x, .bool g1y, .slice a1y l1y c1y, .bool g1z, .slice a1z l1z c1z] 37)).alloc (.cells #[.bool g2x, .slice a2x l2x c2x, .bool g2y, .slice a2y l2y c2y, .bool g2z, .slice a2z l2z c2z] 37)).alloc (.cells #[.bool false, .slice none 0 0, .slice none 0 0, .bool false, .slice none 0 0, .slice none 0 0] 48)) wx)
  case first =>
    refine rgnW [] [] fun w0 ew hHeld => ?_
    refine tk 0 hHeld ?_
    refine tk 1 hHeld ?_
    refine tk 3 hHeld ?_
    refine tk 4 hHeld ?_
    refine tk 7 hHeld ?_
    refine tk 8 hHeld ?_
    refine tk 10 hHeld ?_
    refine tk 11 hHeld ?_
    refine wpAnyT_inv [(2, 11), (5, 14), (6, 15), (9, 18), (12, 21), (13, 22), (14, 23), (15, 6)] (fun i => match i with | 2 => [] | 5 => [2] | 6 => [2, 5] | 9 => [6] | 12 => [9] | 13 => [9, 12] | 14 => [6, 13] | 15 => [] | _ => []) [phiQ (((la : Int) : Rat)) k1x, phiQ (((mb : Int) : Rat)) k2y, phiQ (((la : Int) : Rat) * ((mb : Int) : Rat)) (k1x + k2y + 4), phiQ (((ma : Int) : Rat)) k2x, phiQ (((lb : Int) : Rat)) k1y, phiQ (((ma : Int) : Rat) * ((lb : Int) : Rat)) (k2x + k1y + 4), phiQ (((la : Int) : Rat) * ((mb : Int) : Rat) - ((ma : Int) : Rat) * ((lb : Int) : Rat)) (k1x + k1y + k1z + k2x + k2y + k2z + 20), phiB w0 46 [.bool false, .slice none 0 0, .slice none 0 0]] [15] 1 (by rfl) (by decide +kernel) (by decide) (by decide) (by kernel_rfl) ?_ (fun _ _ => Ex.below) hHeld ?_ ?_
    · intro i hi v W h
      simp only [List.mem_cons, List.not_mem_nil, or_false] at hi
      rcases hi with rfl
      all_goals exact phiB.old h
    · intro i hi f W hSw hbw hp
      have kw := Kp1.mk hbw
      have kv := kpOf ew (W := W)
      have kz : Kz w0 W := ⟨kv.out.size⟩
      have hSx := Ex1.mk hSw
      clear hHeld
      simp only [List.map_cons, List.map_nil, List.mem_cons, List.not_mem_nil, or_false] at hi
      rcases hi with rfl | rfl | rfl | rfl | rfl | rfl | rfl | rfl
      · refine ⟨_, by simp; rfl, fun K' hK => ?_⟩
        clear hp
        simp only [putAll, Act.put, List.setIfInBounds_toArray, List.set_cons_zero, List.set_cons_succ] at hK ⊢
        generalize f 2 = v2 at *
        generalize f 5 = v5 at *
        generalize f 6 = v6 at *
        generalize f 9 = v9 at *
        generalize f 12 = v12 at *
        generalize f 13 = v13 at *
        generalize f 14 = v14 at *
        generalize f 15 = v15 at *
        go_simp
        (with_reducible refine Calls.cQ (refqC) ?_); intros
        refine hK.out _ _ _ rfl (inferInstance : Kp W _).out ?_ ?_
        · exact phiQ.fin rfl (by omega)
        · exact fun h => absurd h (by decide)
      · have h2 : phiQ (((la : Int) : Rat)) k1x (f 2) W := hp 2 (by decide)
        refine ⟨_, by simp; rfl, fun K' hK => ?_⟩
        clear hp
        simp only [putAll, Act.put, List.setIfInBounds_toArray, List.set_cons_zero, List.set_cons_succ] at hK ⊢
        generalize f 2 = v2 at *
        generalize f 5 = v5 at *
        generalize f 6 = v6 at *
        generalize f 9 = v9 at *
        generalize f 12 = v12 at *
        generalize f 13 = v13 at *
        generalize f 14 = v14 at *
        generalize f 15 = v15 at *
        obtain ⟨g2, a2, l2, c2, aa2, ll2, cc2, rfl, i2⟩ := h2
        go_simp
        (with_reducible refine Calls.cQ (refqC) ?_); intros
        refine hK.out _ _ _ rfl (inferInstance : Kp W _).out ?_ ?_
        · exact phiQ.fin rfl (by omega)
        · exact fun h => absurd h (by decide)
      · have h2 : phiQ (((la : Int) : Rat)) k1x (f 2) W := hp 2 (by decide)
        have h5 : phiQ (((mb : Int) : Rat)) k2y (f 5) W := hp 5 (by decide)
        refine ⟨_, by simp; rfl, fun K' hK => ?_⟩
        clear hp
        simp only [putAll, Act.put, List.setIfInBounds_toArray, List.set_cons_zero, List.set_cons_succ] at hK ⊢
        generalize f 2 = v2 at *
        generalize f 5 = v5 at *
        generalize f 6 = v6 at *
        generalize f 9 = v9 at *
        generalize f 12 = v12 at *
        generalize f 13 = v13 at *
        generalize f 14 = v14 at *
        generalize f 15 = v15 at *
        obtain ⟨g2, a2, l2, c2, aa2, ll2, cc2, rfl, i2⟩ := h2
        obtain ⟨g5, a5, l5, c5, aa5, ll5, cc5, rfl, i5⟩ := h5
        go_simp
        (with_reducible refine Calls.cQ (numTimesC (by omega)) ?_); intros
        refine hK.out _ _ _ rfl (inferInstance : Kp W _).out ?_ ?_
        · exact phiQ.fin rfl (by omega)
        · exact fun h => absurd h (by decide)
      · have h6 : phiQ (((la : Int) : Rat) * ((mb : Int) : Rat)) (k1x + k2y + 4) (f 6) W := hp 6 (by decide)
        refine ⟨_, by simp; rfl, fun K' hK => ?_⟩
        clear hp
        simp only [putAll, Act.put, List.setIfInBounds_toArray, List.set_cons_zero, List.set_cons_succ] at hK ⊢
        generalize f 2 = v2 at *
        generalize f 5 = v5 at *
        generalize f 6 = v6 at *
        generalize f 9 = v9 at *
        generalize f 12 = v12 at *
        generalize f 13 = v13 at *
        generalize f 14 = v14 at *
        generalize f 15 = v15 at *
        obtain ⟨g6, a6, l6, c6, aa6, ll6, cc6, rfl, i6⟩ := h6
        go_simp
        (with_reducible refine Calls.cQ (refqC) ?_); intros
        refine hK.out _ _ _ rfl (inferInstance : Kp W _).out ?_ ?_
        · exact phiQ.fin rfl (by omega)
        · exact fun h => absurd h (by decide)
      · have h9 : phiQ (((ma : Int) : Rat)) k2x (f 9) W := hp 9 (by decide)
        refine ⟨_, by simp; rfl, fun K' hK => ?_⟩
        clear hp
        simp only [putAll, Act.put, List.setIfInBounds_toArray, List.set_cons_zero, List.set_cons_succ] at hK ⊢
        generalize f 2 = v2 at *
        generalize f 5 = v5 at *
        generalize f 6 = v6 at *
        generalize f 9 = v9 at *
        generalize f 12 = v12 at *
        generalize f 13 = v13 at *
        generalize f 14 = v14 at *
        generalize f 15 = v15 at *
        obtain ⟨g9, a9, l9, c9, aa9, ll9, cc9, rfl, i9⟩ := h9
        go_simp
        (with_reducible refine Calls.cQ (refqC) ?_); intros
        refine hK.out _ _ _ rfl (inferInstance : Kp W _).out ?_ ?_
        · exact phiQ.fin rfl (by omega)
        · exact fun h => absurd h (by decide)
      · have h9 : phiQ (((ma : Int) : Rat)) k2x (f 9) W := hp 9 (by decide)
        have h12 : phiQ (((lb : Int) : Rat)) k1y (f 12) W := hp 12 (by decide)
        refine ⟨_, by simp; rfl, fun K' hK => ?_⟩
        clear hp
        simp only [putAll, Act.put, List.setIfInBounds_toArray, List.set_cons_zero, List.set_cons_succ] at hK ⊢
        generalize f 2 = v2 at *
        generalize f 5 = v5 at *
        generalize f 6 = v6 at *
        generalize f 9 = v9 at *
        generalize f 12 = v12 at *
        generalize f 13 = v13 at *
        generalize f 14 = v14 at *
        generalize f 15 = v15 at *
        obtain ⟨g9, a9, l9, c9, aa9, ll9, cc9, rfl, i9⟩ := h9
        obtain ⟨g12, a12, l12, c12, aa12, ll12, cc12, rfl, i12⟩ := h12
        go_simp
        (with_reducible refine Calls.cQ (numTimesC (by omega)) ?_); intros
        refine hK.out _ _ _ rfl (inferInstance : Kp W _).out ?_ ?_
        · exact phiQ.fin rfl (by omega)
        · exact fun h => absurd h (by decide)
      · have h6 : phiQ (((la : Int) : Rat) * ((mb : Int) : Rat)) (k1x + k2y + 4) (f 6) W := hp 6 (by decide)
        have h13 : phiQ (((ma : Int) : Rat) * ((lb : Int) : Rat)) (k2x + k1y + 4) (f 13) W := hp 13 (by decide)
        refine ⟨_, by simp; rfl, fun K' hK => ?_⟩
        clear hp
        simp only [putAll, Act.put, List.setIfInBounds_toArray, List.set_cons_zero, List.set_cons_succ] at hK ⊢
        generalize f 2 = v2 at *
        generalize f 5 = v5 at *
        generalize f 6 = v6 at *
        generalize f 9 = v9 at *
        generalize f 12 = v12 at *
        generalize f 13 = v13 at *
        generalize f 14 = v14 at *
        generalize f 15 = v15 at *
        obtain ⟨g6, a6, l6, c6, aa6, ll6, cc6, rfl, i6⟩ := h6
        obtain ⟨g13, a13, l13, c13, aa13, ll13, cc13, rfl, i13⟩ := h13
        go_simp
        (with_reducible refine Calls.cQ (numSubC (by omega)) ?_); intros
        refine hK.out _ _ _ rfl (inferInstance : Kp W _).out ?_ ?_
        · exact phiQ.fin rfl (by omega)
        · exact fun h => absurd h (by decide)
      · refine ⟨_, by simp; rfl, fun K' hK => ?_⟩
        clear hp
        simp only [putAll, Act.put, List.setIfInBounds_toArray, List.set_cons_zero, List.set_cons_succ] at hK ⊢
        generalize f 2 = v2 at *
        generalize f 5 = v5 at *
        generalize f 6 = v6 at *
        generalize f 9 = v9 at *
        generalize f 12 = v12 at *
        generalize f 13 = v13 at *
        generalize f 14 = v14 at *
        generalize f 15 = v15 at *
        go_simp
        refine hK.out _ _ _ rfl (inferInstance : Kp W _).out ?_ ?_
        · exact phiB.fin
        · exact fun _ => ⟨_, rfl, Nat.le_refl _⟩
    · intro f W hSw hbw hf hne
      have kw := Kp1.mk hbw
      have hSx := Ex1.mk hSw
      clear hHeld
      have kv := kpOf ew (W := W)
      have kz : Kz w0 W := ⟨kv.out.size⟩
      have h2 : phiQ (((la : Int) : Rat)) k1x (f 2) W := hf 2 (by decide)
      have h5 : phiQ (((mb : Int) : Rat)) k2y (f 5) W := hf 5 (by decide)
      have h6 : phiQ (((la : Int) : Rat) * ((mb : Int) : Rat)) (k1x + k2y + 4) (f 6) W := hf 6 (by decide)
      have h9 : phiQ (((ma : Int) : Rat)) k2x (f 9) W := hf 9 (by decide)
      have h12 : phiQ (((lb : Int) : Rat)) k1y (f 12) W := hf 12 (by decide)
      have h13 : phiQ (((ma : Int) : Rat) * ((lb : Int) : Rat)) (k2x + k1y + 4) (f 13) W := hf 13 (by decide)
      have h14 : phiQ (((la : Int) : Rat) * ((mb : Int) : Rat) - ((ma : Int) : Rat) * ((lb : Int) : Rat)) (k1x + k1y + k1z + k2x + k2y + k2z + 20) (f 14) W := hf 14 (by decide)
      have h15 : phiB w0 46 [.bool false, .slice none 0 0, .slice none 0 0] (f 15) W := hf 15 (by decide)
      clear hf hne
      simp only [putAll, lset, List.map_cons, List.map_nil, Act.put, List.setIfInBounds_toArray, List.set_cons_zero, List.set_cons_succ]
      generalize f 2 = v2 at *
      generalize f 5 = v5 at *
      generalize f 6 = v6 at *
      generalize f 9 = v9 at *
      generalize f 12 = v12 at *
      generalize f 13 = v13 at *
      generalize f 14 = v14 at *
      generalize f 15 = v15 at *
      obtain ⟨g2, a2, l2, c2, aa2, ll2, cc2, rfl, i2⟩ := h2
      obtain ⟨g5, a5, l5, c5, aa5, ll5, cc5, rfl, i5⟩ := h5
      obtain ⟨g6, a6, l6, c6, aa6, ll6, cc6, rfl, i6⟩ := h6
      obtain ⟨g9, a9, l9, c9, aa9, ll9, cc9, rfl, i9⟩ := h9
      obtain ⟨g12, a12, l12, c12, aa12, ll12, cc12, rfl, i12⟩ := h12
      obtain ⟨g13, a13, l13, c13, aa13, ll13, cc13, rfl, i13⟩ := h13
      obtain ⟨g14, a14, l14, c14, aa14, ll14, cc14, rfl, i14⟩ := h14
      obtain ⟨b15, rfl, i15, j15, k15⟩ := h15
      have nw15 := nwOf ew j15
      have gg15 := ggOf ew k15
      have gl15 : Ge w b15 := ⟨by have h2 := j15.out; rw [ew.out] at h2; exact Nat.le_trans (inferInstance : Kp w _).out.size h2⟩
      have ge15 := geOf ew j15
      have hHeld := hSw
      refine st 16 fun K hK => ?_
      go_simp
      refine hd hK ?_
      clear hHeld hK K
      intro hHeld
      refine dn ?_
      clear hHeld
      go_wp2_with fail
      go_meet
      exact ⟨_, _, _, _, _, _, _, _, rfl, inferInstance, inferInstance, inferInstance⟩
  case rest =>
   obtain ⟨b6, g6, a6, l6, c6, aa6, ll6, cc6, rfl, i1, i2, ⟨i3⟩⟩ := hcut
   have i4 := Kp1.mk i3
   have i5 : Kp w wc := inferInstance
   go_wp2_with (first | (go_at_call 29; (with_reducible refine Calls.cE (numSV HS) ?_); intros))
   refine ret_bt rfl Tryz.underlying48 rfl (by kernel_rfl) rfl rfl rfl ?_
   exact PQBRet.fin rfl (by omega) rfl (by omega)

theorem sameQ0 {w : World} : Calls Tryz.prog 32 #[.agg #[.bool false, .slice none 0 0, .slice none 0 0], .agg #[.bool false, .slice none 0 0, .slice none 0 0]] w fun e w' => e = .returned (.bool true) ∧ Below w.heap.size w w' := by
  have z : CZ w (.agg #[.bool false, .slice none 0 0]) 0 0 := ⟨_, _, _, _, rfl, rfl, Nn.nil w 0⟩
  go_enter Tryz.func32, Tryz.ntmps32
  go_wp2_with (first
    | (go_at_call 57; (with_reducible refine Calls.cE (sameIC rfl) ?_); intros)
    | (go_at_call 97; (with_reducible refine Calls.cE (sameNC rfl) ?_); intros))
  go_ret
  exact E.fin rfl
theorem sameP0 {w : World} : Calls Tryz.prog 25 #[.agg #[.bool false, .slice none 0 0, .slice none 0 0, .bool false, .slice none 0 0, .slice none 0 0], .agg #[.bool false, .slice none 0 0, .slice none 0 0, .bool false, .slice none 0 0, .slice none 0 0]] w fun e w' => e = .returned (.bool true) ∧ Below w.heap.size w w' := by
  go_enter Tryz.func25, Tryz.ntmps25
  go_wp2_with (first
    | (go_at_call 32; (with_reducible refine Calls.cE (sameQ0) ?_); intros))
  go_ret
  exact E.fin rfl
theorem same_cmp {a b c a' b' c' : Rat} {v : Int} (h : Hid (cmpL a b c a' b' c' = v)) : Hid (decide (a = a' ∧ b = b' ∧ c = c') = (v == 0)) := by
  show _ = _
  rw [← h.out, cmpL_zero]
theorem opp_cmp {a b c : Rat} {a' b' c' v : Int} (h : Hid (cmpL a b c ((-a' : Int) : Rat) ((-b' : Int) : Rat) ((-c' : Int) : Rat) = v)) : Hid (decide (a = -(a' : Rat) ∧ b = -(b' : Rat) ∧ c = -(c' : Rat)) = (v == 0)) := by
  show _ = _
  rw [← h.out, cmpL_zero, Rat.intCast_neg, Rat.intCast_neg, Rat.intCast_neg]
theorem same_cmpV {a b c a' b' c' : Rat} {v : Int} {s : Bool} (h : Hid (cmpL a b c a' b' c' = v)) (r : (v == 0) = s) : Hid (decide (a = a' ∧ b = b' ∧ c = c') = s) := by
  show _ = _
  rw [← r, ← h.out, cmpL_zero]
theorem opp_cmpV {a b c : Rat} {a' b' c' v : Int} {s : Bool} (h : Hid (cmpL a b c ((-a' : Int) : Rat) ((-b' : Int) : Rat) ((-c' : Int) : Rat) = v)) (r : (v == 0) = s) : Hid (decide (a = -(a' : Rat) ∧ b = -(b' : Rat) ∧ c = -(c' : Rat)) = s) := by
  show _ = _
  rw [← r, ← h.out, cmpL_zero, Rat.intCast_neg, Rat.intCast_neg, Rat.intCast_neg]
theorem mr_x {a b c a' b' c' : Rat} : (b * c' - c * b') / (a * b' - b * a') = (b * c' - b' * c) / (a * b' - a' * b) := by rw [Rat.mul_comm c b', Rat.mul_comm b a']
theorem mr_y {a b c a' b' c' : Rat} : (c * a' - a * c') / (a * b' - b * a') = (a' * c - a * c') / (a * b' - a' * b) := by rw [Rat.mul_comm c a', Rat.mul_comm b a']
theorem lineCompareV {w : World} {v : Int} {g1x g1y g1z g2x g2y g2z : Bool} {a1x a1y a1z a2x a2y a2z : Option Addr} {l1x c1x l1y c1y l1z c1z l2x c2x l2y c2y l2z c2z k1x k1y k1z k2x k2y k2z : Nat} {la lb lc ma mb mc : Int} [h1x : CZ w (.agg #[.bool g1x, .slice a1x l1x c1x]) la k1x] [h1y : CZ w (.agg #[.bool g1y, .slice a1y l1y c1y]) lb k1y] [h1z : CZ w (.agg #[.bool g1z, .slice a1z l1z c1z]) lc k1z] [h2x : CZ w (.agg #[.bool g2x, .slice a2x l2x c2x]) ma k2x] [h2y : CZ w (.agg #[.bool g2y, .slice a2y l2y c2y]) mb k2y] [h2z : CZ w (.agg #[.bool g2z, .slice a2z l2z c2z]) mc k2z] (b : k1x ≤ 6000 ∧ k1y ≤ 6000 ∧ k1z ≤ 6000 ∧ k2x ≤ 6000 ∧ k2y ≤ 6000 ∧ k2z ≤ 6000) (hv0 : Hid (LnV la lb lc)) (hw0 : Hid (LnV ma mb mc)) (hv : Hid (cmpL ((la : Int) : Rat) ((lb : Int) : Rat) ((lc : Int) : Rat) ((ma : Int) : Rat) ((mb : Int) : Rat) ((mc : Int) : Rat) = v)) :
    Calls Tryz.prog 46 #[.agg #[.bool g1x, .slice a1x l1x c1x, .bool g1y, .slice a1y l1y c1y, .bool g1z, .slice a1z l1z c1z], .agg #[.bool g2x, .slice a2x l2x c2x, .bool g2y, .slice a2y l2y c2y, .bool g2z, .slice a2z l2z c2z]] w (fun e w' => e = .returned (.int .i64 v) ∧ Below w.heap.size w w') := by
  rw [← hv.out]; exact lineCompareC (by omega) hv0 hw0
end Go.Proofs.YtfdgglddldlpjaaGreat

/- The walk of the law LineRelates: it returns true and changes nothing that was there. printed by a small program (mkln12.py). -/
namespace Go.Proofs.YtfdgglddldlpjaaGreat
open Go.RowKit
set_option maxRecDepth 100000
set_option maxHeartbeats 40000000
set_option synthInstance.maxSize 100000
set_option synthInstance.maxHeartbeats 1000000

set_option linter.unusedSimpArgs false
theorem lineRelates_walk (a0 : Option Addr) (len0 cap0 : Nat) (z0 : List Int) (w : World) (w0 : IsRow .i64 w a0 len0 cap0 z0) :
    Calls Tryz.prog 6 #[.slice a0 len0 cap0] w fun e w' => e = .returned (.bool true) ∧ Below w.heap.size w w' := by
  go_enter Tryz.func6, Tryz.ntmps6
  go_wp2_with fail
  with_reducible refine Calls.cNew (newW w0) ?_
  intro W0 _ _
  go_wp2_with fail
  with_reducible refine Calls.cTL tapeLC ?_
  intro W1 _ _ gx1 ax1 lx1 cx1 gy1 ay1 ly1 cy1 gz1 az1 lz1 cz1 la lb lc _ _ _ hv1
  go_wp2_with fail
  with_reducible refine Calls.cTL tapeLC ?_
  intro W2 _ _ gx2 ax2 lx2 cx2 gy2 ay2 ly2 cy2 gz2 az2 lz2 cz2 ma mb mc _ _ _ hv2
  go_wp2_with fail
  with_reducible refine Calls.cNext (nextC (by omega)) ?_
  intro W3 _ _ sw s1_ s2_
  have hr1 := Lib.hid hv1.out.rev
  by_cases z0 : sw = 0
  · subst z0
    clear s1_ s2_
    have hwr : Hid (LnV (-la) (-lb) (-lc)) := hv1.out.rev
    obtain ⟨v1, q1⟩ : ∃ v, cmpL ((la : Int) : Rat) ((lb : Int) : Rat) ((lc : Int) : Rat) ((la : Int) : Rat) ((lb : Int) : Rat) ((lc : Int) : Rat) = v := ⟨_, rfl⟩
    obtain ⟨v2, q2⟩ : ∃ v, cmpL ((la : Int) : Rat) ((lb : Int) : Rat) ((lc : Int) : Rat) ((-la : Int) : Rat) ((-lb : Int) : Rat) ((-lc : Int) : Rat) = v := ⟨_, rfl⟩
    obtain ⟨z, hz⟩ : ∃ z, decide (((la : Int) : Rat) * ((lb : Int) : Rat) - ((lb : Int) : Rat) * ((la : Int) : Rat) = 0) = z := ⟨_, rfl⟩
    have H1 := Lib.hid q1
    have H2 := Lib.hid q2
    have HZ := Lib.hid hz
    clear q1 q2 hz
    obtain ⟨s1, r1⟩ : ∃ s, (v1 == 0) = s := ⟨_, rfl⟩
    obtain ⟨s2, r2⟩ : ∃ s, (v2 == 0) = s := ⟨_, rfl⟩
    go_wp2_with (first | (go_at_call 41; (with_reducible refine Calls.cLZ (refRevC) ?_); intros))
    refine rgnW [] [] fun w0 ew hHeld => ?_
    refine tk 0 hHeld ?_
    refine tk 2 hHeld ?_
    refine wpAnyT_inv [(1, 28), (3, 30), (4, 6), (5, 7)] (fun i => match i with | 1 => [] | 3 => [1] | 4 => [] | 5 => [] | _ => []) [phiLZ la lb lc 2, phiLZ la lb lc 2, phiB w0 30 [.bool false, .slice none 0 0, .bool false, .slice none 0 0, .bool false, .slice none 0 0], phiB w0 30 [.bool false, .slice none 0 0, .bool false, .slice none 0 0, .bool false, .slice none 0 0]] [4, 5] 2 (by rfl) (by decide +kernel) (by decide) (by decide) (by kernel_rfl) ?_ (fun _ _ => Ex.below) hHeld ?_ ?_
    · intro i hi v W h
      simp only [List.mem_cons, List.not_mem_nil, or_false] at hi
      rcases hi with rfl | rfl
      all_goals exact phiB.old h
    · intro i hi f W hSw hbw hp
      have kw := Kp1.mk hbw
      have kv := kpOf ew (W := W)
      have kz : Kz w0 W := ⟨kv.out.size⟩
      have hSx := Ex1.mk hSw
      clear hHeld
      simp only [List.map_cons, List.map_nil, List.mem_cons, List.not_mem_nil, or_false] at hi
      rcases hi with rfl | rfl | rfl | rfl
      · refine ⟨_, by simp; rfl, fun K' hK => ?_⟩
        clear hp
        simp only [putAll, Act.put, List.setIfInBounds_toArray, List.set_cons_zero, List.set_cons_succ] at hK ⊢
        generalize f 1 = v1 at *
        generalize f 3 = v3 at *
        generalize f 4 = v4 at *
        generalize f 5 = v5 at *
        go_simp
        (with_reducible refine Calls.cLZ (toLC (by omega)) ?_); intros
        refine hK.out _ _ _ rfl (inferInstance : Kp W _).out ?_ ?_
        · exact phiLZ.fin rfl (by omega) rfl (by omega) rfl (by omega)
        · exact fun h => absurd h (by decide)
      · have h1 : phiLZ la lb lc 2 (f 1) W := hp 1 (by decide)
        refine ⟨_, by simp; rfl, fun K' hK => ?_⟩
        clear hp
        simp only [putAll, Act.put, List.setIfInBounds_toArray, List.set_cons_zero, List.set_cons_succ] at hK ⊢
        generalize f 1 = v1 at *
        generalize f 3 = v3 at *
        generalize f 4 = v4 at *
        generalize f 5 = v5 at *
        obtain ⟨gx1, ax1, lx1, cx1, gy1, ay1, ly1, cy1, gz1, az1, lz1, cz1, rfl, ix1, iy1, iz1⟩ := h1
        go_simp
        (with_reducible refine Calls.cLZ (toLC (by omega)) ?_); intros
        refine hK.out _ _ _ rfl (inferInstance : Kp W _).out ?_ ?_
        · exact phiLZ.fin rfl (by omega) rfl (by omega) rfl (by omega)
        · exact fun h => absurd h (by decide)
      · refine ⟨_, by simp; rfl, fun K' hK => ?_⟩
        clear hp
        simp only [putAll, Act.put, List.setIfInBounds_toArray, List.set_cons_zero, List.set_cons_succ] at hK ⊢
        generalize f 1 = v1 at *
        generalize f 3 = v3 at *
        generalize f 4 = v4 at *
        generalize f 5 = v5 at *
        go_simp
        refine hK.out _ _ _ rfl (inferInstance : Kp W _).out ?_ ?_
        · exact phiB.fin
        · exact fun _ => ⟨_, rfl, Nat.le_refl _⟩
      · refine ⟨_, by simp; rfl, fun K' hK => ?_⟩
        clear hp
        simp only [putAll, Act.put, List.setIfInBounds_toArray, List.set_cons_zero, List.set_cons_succ] at hK ⊢
        generalize f 1 = v1 at *
        generalize f 3 = v3 at *
        generalize f 4 = v4 at *
        generalize f 5 = v5 at *
        go_simp
        refine hK.out _ _ _ rfl (inferInstance : Kp W _).out ?_ ?_
        · exact phiB.fin
        · exact fun _ => ⟨_, rfl, Nat.le_refl _⟩
    intro f W hSw hbw hf hne
    have kw := Kp1.mk hbw
    have hSx := Ex1.mk hSw
    clear hHeld
    have kv := kpOf ew (W := W)
    have kz : Kz w0 W := ⟨kv.out.size⟩
    have h1 : phiLZ la lb lc 2 (f 1) W := hf 1 (by decide)
    have h3 : phiLZ la lb lc 2 (f 3) W := hf 3 (by decide)
    have h4 : phiB w0 30 [.bool false, .slice none 0 0, .bool false, .slice none 0 0, .bool false, .slice none 0 0] (f 4) W := hf 4 (by decide)
    have h5 : phiB w0 30 [.bool false, .slice none 0 0, .bool false, .slice none 0 0, .bool false, .slice none 0 0] (f 5) W := hf 5 (by decide)
    have n4_5 := hne 4 5 (by decide) (by decide) (by decide) (by decide) (by decide)
    clear hf hne
    simp only [putAll, lset, List.map_cons, List.map_nil, Act.put, List.setIfInBounds_toArray, List.set_cons_zero, List.set_cons_succ]
    generalize f 1 = v1 at *
    generalize f 3 = v3 at *
    generalize f 4 = v4 at *
    generalize f 5 = v5 at *
    obtain ⟨gx1, ax1, lx1, cx1, gy1, ay1, ly1, cy1, gz1, az1, lz1, cz1, rfl, ix1, iy1, iz1⟩ := h1
    obtain ⟨gx3, ax3, lx3, cx3, gy3, ay3, ly3, cy3, gz3, az3, lz3, cz3, rfl, ix3, iy3, iz3⟩ := h3
    obtain ⟨b4, rfl, i4, j4, k4⟩ := h4
    obtain ⟨b5, rfl, i5, j5, k5⟩ := h5
    have nw4 := nwOf ew j4
    have gg4 := ggOf ew k4
    have gl4 : Ge w b4 := ⟨by have h2 := j4.out; rw [ew.out] at h2; exact Nat.le_trans (inferInstance : Kp w _).out.size h2⟩
    have nw5 := nwOf ew j5
    have gg5 := ggOf ew k5
    have gl5 : Ge w b5 := ⟨by have h2 := j5.out; rw [ew.out] at h2; exact Nat.le_trans (inferInstance : Kp w _).out.size h2⟩
    have n4_5 := ptr_ne n4_5
    have n5_4 : NeN b5 b4 := ⟨fun e => n4_5.out e.symm⟩
    have hHeld := hSw
    refine st 6 fun K hK => ?_
    go_simp
    refine hd hK ?_
    clear hHeld hK K
    intro hHeld
    refine st 7 fun K hK => ?_
    go_simp
    refine hd hK ?_
    clear hHeld hK K
    intro hHeld
    refine dn ?_
    clear hHeld
    cases z with
    | true =>
      go_wp2_with (first
        | (go_at_call 21; (with_reducible refine Calls.cE (lineMeetNo (by omega) hv1 hv1 HZ) ?_); intros)
        | (go_at_call 42; (with_reducible refine Calls.cPQB (refMeetNo (by omega) HZ) ?_); intros)
        | (go_at_call 25; (with_reducible refine Calls.cE sameP0 ?_); intros))
      refine rgn [] [] fun hHeld => ?_
      refine st 0 fun K hK => ?_
      go_simp
      (with_reducible refine Calls.cE (known05C) ?_); intros
      refine hd hK ?_
      clear hHeld hK K
      intro hHeld
      refine tk 1 hHeld ?_
      refine tk 2 hHeld ?_
      refine tk 3 hHeld ?_
      refine tk 5 hHeld ?_
      refine tk 6 hHeld ?_
      refine st 4 fun K hK => ?_
      go_simp
      (with_reducible refine Calls.cE (lineSameC (by omega) hv1 hv1 (same_cmpV H1 r1)) ?_); intros
      refine hd hK ?_
      clear hHeld hK K
      intro hHeld
      refine st 7 fun K hK => ?_
      go_simp
      (with_reducible refine Calls.cE (refCmpV (by omega) H1) ?_); intros
      refine hd hK ?_
      clear hHeld hK K
      intro hHeld
      refine tk 8 hHeld ?_
      refine tk 9 hHeld ?_
      refine tk 10 hHeld ?_
      refine tk 11 hHeld ?_
      refine tk 12 hHeld ?_
      refine tk 13 hHeld ?_
      refine tk 15 hHeld ?_
      refine tk 16 hHeld ?_
      refine st 14 fun K hK => ?_
      go_simp
      (with_reducible refine Calls.cE (lineOppositeC (by omega) hv1 hv1 (opp_cmpV H2 r2)) ?_); intros
      refine hd hK ?_
      clear hHeld hK K
      intro hHeld
      refine st 17 fun K hK => ?_
      go_simp
      (with_reducible refine Calls.cLZ (refRevC) ?_); intros
      refine hd hK ?_
      clear hHeld hK K
      intro hHeld
      refine st 18 fun K hK => ?_
      go_simp
      (with_reducible refine Calls.cE (refCmpV (by omega) H2) ?_); intros
      refine hd hK ?_
      clear hHeld hK K
      intro hHeld
      refine tk 19 hHeld ?_
      refine tk 20 hHeld ?_
      refine tk 21 hHeld ?_
      refine tk 22 hHeld ?_
      refine tk 23 hHeld ?_
      refine tk 24 hHeld ?_
      refine tk 26 hHeld ?_
      refine tk 27 hHeld ?_
      refine st 25 fun K hK => ?_
      go_simp
      (with_reducible refine Calls.cE (lineParallelC (by omega) hv1 hv1 HZ) ?_); intros
      refine hd hK ?_
      clear hHeld hK K
      intro hHeld
      refine st 28 fun K hK => ?_
      go_simp
      (with_reducible refine Calls.cE (refParallelV (by omega) HZ) ?_); intros
      refine hd hK ?_
      clear hHeld hK K
      intro hHeld
      refine tk 29 hHeld ?_
      refine tk 30 hHeld ?_
      refine tk 31 hHeld ?_
      refine tk 32 hHeld ?_
      refine tk 33 hHeld ?_
      refine tk 35 hHeld ?_
      refine tk 36 hHeld ?_
      refine st 34 fun K hK => ?_
      go_simp
      (with_reducible refine Calls.cE (lineCompareV (by omega) hv1 hv1 H1) ?_); intros
      refine hd hK ?_
      clear hHeld hK K
      intro hHeld
      refine st 37 fun K hK => ?_
      go_simp
      (with_reducible refine Calls.cE (refCmpV (by omega) H1) ?_); intros
      refine hd hK ?_
      clear hHeld hK K
      intro hHeld
      refine tk 38 hHeld ?_
      refine tk 39 hHeld ?_
      refine tk 40 hHeld ?_
      refine dn ?_
      clear hHeld
      go_wp2
      go_ret
      exact E.fin rfl
    | false =>
      go_wp2_with (first
        | (go_at_call 21; (with_reducible refine Calls.cPAB (lineMeetOk (by omega) hv1 hv1 HZ) ?_); intros)
        | (go_at_call 42; (with_reducible refine Calls.cPQB (refMeetOk (by omega) HZ) ?_); intros)
        | (go_at_call 43; (with_reducible refine Calls.cE (sameP05B (by omega) mr_x mr_y) ?_); intros))
      refine rgn [] [] fun hHeld => ?_
      refine st 0 fun K hK => ?_
      go_simp
      (with_reducible refine Calls.cE (known05C) ?_); intros
      refine hd hK ?_
      clear hHeld hK K
      intro hHeld
      refine tk 1 hHeld ?_
      refine tk 2 hHeld ?_
      refine tk 3 hHeld ?_
      refine tk 5 hHeld ?_
      refine tk 6 hHeld ?_
      refine st 4 fun K hK => ?_
      go_simp
      (with_reducible refine Calls.cE (lineSameC (by omega) hv1 hv1 (same_cmpV H1 r1)) ?_); intros
      refine hd hK ?_
      clear hHeld hK K
      intro hHeld
      refine st 7 fun K hK => ?_
      go_simp
      (with_reducible refine Calls.cE (refCmpV (by omega) H1) ?_); intros
      refine hd hK ?_
      clear hHeld hK K
      intro hHeld
      refine tk 8 hHeld ?_
      refine tk 9 hHeld ?_
      refine tk 10 hHeld ?_
      refine tk 11 hHeld ?_
      refine tk 12 hHeld ?_
      refine tk 13 hHeld ?_
      refine tk 15 hHeld ?_
      refine tk 16 hHeld ?_
      refine st 14 fun K hK => ?_
      go_simp
      (with_reducible refine Calls.cE (lineOppositeC (by omega) hv1 hv1 (opp_cmpV H2 r2)) ?_); intros
      refine hd hK ?_
      clear hHeld hK K
      intro hHeld
      refine st 17 fun K hK => ?_
      go_simp
      (with_reducible refine Calls.cLZ (refRevC) ?_); intros
      refine hd hK ?_
      clear hHeld hK K
      intro hHeld
      refine st 18 fun K hK => ?_
      go_simp
      (with_reducible refine Calls.cE (refCmpV (by omega) H2) ?_); intros
      refine hd hK ?_
      clear hHeld hK K
      intro hHeld
      refine tk 19 hHeld ?_
      refine tk 20 hHeld ?_
      refine tk 21 hHeld ?_
      refine tk 22 hHeld ?_
      refine tk 23 hHeld ?_
      refine tk 24 hHeld ?_
      refine tk 26 hHeld ?_
      refine tk 27 hHeld ?_
      refine st 25 fun K hK => ?_
      go_simp
      (with_reducible refine Calls.cE (lineParallelC (by omega) hv1 hv1 HZ) ?_); intros
      refine hd hK ?_
      clear hHeld hK K
      intro hHeld
      refine st 28 fun K hK => ?_
      go_simp
      (with_reducible refine Calls.cE (refParallelV (by omega) HZ) ?_); intros
      refine hd hK ?_
      clear hHeld hK K
      intro hHeld
      refine tk 29 hHeld ?_
      refine tk 30 hHeld ?_
      refine tk 31 hHeld ?_
      refine tk 32 hHeld ?_
      refine tk 33 hHeld ?_
      refine tk 35 hHeld ?_
      refine tk 36 hHeld ?_
      refine st 34 fun K hK => ?_
      go_simp
      (with_reducible refine Calls.cE (lineCompareV (by omega) hv1 hv1 H1) ?_); intros
      refine hd hK ?_
      clear hHeld hK K
      intro hHeld
      refine st 37 fun K hK => ?_
      go_simp
      (with_reducible refine Calls.cE (refCmpV (by omega) H1) ?_); intros
      refine hd hK ?_
      clear hHeld hK K
      intro hHeld
      refine tk 38 hHeld ?_
      refine tk 39 hHeld ?_
      refine tk 40 hHeld ?_
      refine dn ?_
      clear hHeld
      go_wp2
      go_ret
      exact E.fin rfl
  · by_cases z1 : sw = 1
    · subst z1
      clear s1_ s2_ z0
      have hwr : Hid (LnV (-(-la)) (-(-lb)) (-(-lc))) := hr1.out.rev
      obtain ⟨v1, q1⟩ : ∃ v, cmpL ((la : Int) : Rat) ((lb : Int) : Rat) ((lc : Int) : Rat) ((-la : Int) : Rat) ((-lb : Int) : Rat) ((-lc : Int) : Rat) = v := ⟨_, rfl⟩
      obtain ⟨v2, q2⟩ : ∃ v, cmpL ((la : Int) : Rat) ((lb : Int) : Rat) ((lc : Int) : Rat) ((-(-la) : Int) : Rat) ((-(-lb) : Int) : Rat) ((-(-lc) : Int) : Rat) = v := ⟨_, rfl⟩
      obtain ⟨z, hz⟩ : ∃ z, decide (((la : Int) : Rat) * ((-lb : Int) : Rat) - ((lb : Int) : Rat) * ((-la : Int) : Rat) = 0) = z := ⟨_, rfl⟩
      have H1 := Lib.hid q1
      have H2 := Lib.hid q2
      have HZ := Lib.hid hz
      clear q1 q2 hz
      obtain ⟨s1, r1⟩ : ∃ s, (v1 == 0) = s := ⟨_, rfl⟩
      obtain ⟨s2, r2⟩ : ∃ s, (v2 == 0) = s := ⟨_, rfl⟩
      go_wp2_with (first | (go_at_call 41; (with_reducible refine Calls.cLZ (refRevC) ?_); intros))
      refine rgnW [] [] fun w0 ew hHeld => ?_
      refine tk 0 hHeld ?_
      refine tk 2 hHeld ?_
      refine wpAnyT_inv [(1, 28), (3, 30), (4, 6), (5, 7)] (fun i => match i with | 1 => [] | 3 => [1] | 4 => [] | 5 => [] | _ => []) [phiLZ la lb lc 2, phiLZ (-la) (-lb) (-lc) 2, phiB w0 30 [.bool false, .slice none 0 0, .bool false, .slice none 0 0, .bool false, .slice none 0 0], phiB w0 30 [.bool false, .slice none 0 0, .bool false, .slice none 0 0, .bool false, .slice none 0 0]] [4, 5] 2 (by rfl) (by decide +kernel) (by decide) (by decide) (by kernel_rfl) ?_ (fun _ _ => Ex.below) hHeld ?_ ?_
      · intro i hi v W h
        simp only [List.mem_cons, List.not_mem_nil, or_false] at hi
        rcases hi with rfl | rfl
        all_goals exact phiB.old h
      · intro i hi f W hSw hbw hp
        have kw := Kp1.mk hbw
        have kv := kpOf ew (W := W)
        have kz : Kz w0 W := ⟨kv.out.size⟩
        have hSx := Ex1.mk hSw
        clear hHeld
        simp only [List.map_cons, List.map_nil, List.mem_cons, List.not_mem_nil, or_false] at hi
        rcases hi with rfl | rfl | rfl | rfl
        · refine ⟨_, by simp; rfl, fun K' hK => ?_⟩
          clear hp
          simp only [putAll, Act.put, List.setIfInBounds_toArray, List.set_cons_zero, List.set_cons_succ] at hK ⊢
          generalize f 1 = v1 at *
          generalize f 3 = v3 at *
          generalize f 4 = v4 at *
          generalize f 5 = v5 at *
          go_simp
          (with_reducible refine Calls.cLZ (toLC (by omega)) ?_); intros
          refine hK.out _ _ _ rfl (inferInstance : Kp W _).out ?_ ?_
          · exact phiLZ.fin rfl (by omega) rfl (by omega) rfl (by omega)
          · exact fun h => absurd h (by decide)
        · have h1 : phiLZ la lb lc 2 (f 1) W := hp 1 (by decide)
          refine ⟨_, by simp; rfl, fun K' hK => ?_⟩
          clear hp
          simp only [putAll, Act.put, List.setIfInBounds_toArray, List.set_cons_zero, List.set_cons_succ] at hK ⊢
          generalize f 1 = v1 at *
          generalize f 3 = v3 at *
          generalize f 4 = v4 at *
          generalize f 5 = v5 at *
          obtain ⟨gx1, ax1, lx1, cx1, gy1, ay1, ly1, cy1, gz1, az1, lz1, cz1, rfl, ix1, iy1, iz1⟩ := h1
          go_simp
          (with_reducible refine Calls.cLZ (toLC (by omega)) ?_); intros
          refine hK.out _ _ _ rfl (inferInstance : Kp W _).out ?_ ?_
          · exact phiLZ.fin rfl (by omega) rfl (by omega) rfl (by omega)
          · exact fun h => absurd h (by decide)
        · refine ⟨_, by simp; rfl, fun K' hK => ?_⟩
          clear hp
          simp only [putAll, Act.put, List.setIfInBounds_toArray, List.set_cons_zero, List.set_cons_succ] at hK ⊢
          generalize f 1 = v1 at *
          generalize f 3 = v3 at *
          generalize f 4 = v4 at *
          generalize f 5 = v5 at *
          go_simp
          refine hK.out _ _ _ rfl (inferInstance : Kp W _).out ?_ ?_
          · exact phiB.fin
          · exact fun _ => ⟨_, rfl, Nat.le_refl _⟩
        · refine ⟨_, by simp; rfl, fun K' hK => ?_⟩
          clear hp
          simp only [putAll, Act.put, List.setIfInBounds_toArray, List.set_cons_zero, List.set_cons_succ] at hK ⊢
          generalize f 1 = v1 at *
          generalize f 3 = v3 at *
          generalize f 4 = v4 at *
          generalize f 5 = v5 at *
          go_simp
          refine hK.out _ _ _ rfl (inferInstance : Kp W _).out ?_ ?_
          · exact phiB.fin
          · exact fun _ => ⟨_, rfl, Nat.le_refl _⟩
      intro f W hSw hbw hf hne
      have kw := Kp1.mk hbw
      have hSx := Ex1.mk hSw
      clear hHeld
      have kv := kpOf ew (W := W)
      have kz : Kz w0 W := ⟨kv.out.size⟩
      have h1 : phiLZ la lb lc 2 (f 1) W := hf 1 (by decide)
      have h3 : phiLZ (-la) (-lb) (-lc) 2 (f 3) W := hf 3 (by decide)
      have h4 : phiB w0 30 [.bool false, .slice none 0 0, .bool false, .slice none 0 0, .bool false, .slice none 0 0] (f 4) W := hf 4 (by decide)
      have h5 : phiB w0 30 [.bool false, .slice none 0 0, .bool false, .slice none 0 0, .bool false, .slice none 0 0] (f 5) W := hf 5 (by decide)
      have n4_5 := hne 4 5 (by decide) (by decide) (by decide) (by decide) (by decide)
      clear hf hne
      simp only [putAll, lset, List.map_cons, List.map_nil, Act.put, List.setIfInBounds_toArray, List.set_cons_zero, List.set_cons_succ]
      generalize f 1 = v1 at *
      generalize f 3 = v3 at *
      generalize f 4 = v4 at *
      generalize f 5 = v5 at *
      obtain ⟨gx1, ax1, lx1, cx1, gy1, ay1, ly1, cy1, gz1, az1, lz1, cz1, rfl, ix1, iy1, iz1⟩ := h1
      obtain ⟨gx3, ax3, lx3, cx3, gy3, ay3, ly3, cy3, gz3, az3, lz3, cz3, rfl, ix3, iy3, iz3⟩ := h3
      obtain ⟨b4, rfl, i4, j4, k4⟩ := h4
      obtain ⟨b5, rfl, i5, j5, k5⟩ := h5
      have nw4 := nwOf ew j4
      have gg4 := ggOf ew k4
      have gl4 : Ge w b4 := ⟨by have h2 := j4.out; rw [ew.out] at h2; exact Nat.le_trans (inferInstance : Kp w _).out.size h2⟩
      have nw5 := nwOf ew j5
      have gg5 := ggOf ew k5
      have gl5 : Ge w b5 := ⟨by have h2 := j5.out; rw [ew.out] at h2; exact Nat.le_trans (inferInstance : Kp w _).out.size h2⟩
      have n4_5 := ptr_ne n4_5
      have n5_4 : NeN b5 b4 := ⟨fun e => n4_5.out e.symm⟩
      have hHeld := hSw
      refine st 6 fun K hK => ?_
      go_simp
      refine hd hK ?_
      clear hHeld hK K
      intro hHeld
      refine st 7 fun K hK => ?_
      go_simp
      refine hd hK ?_
      clear hHeld hK K
      intro hHeld
      refine dn ?_
      clear hHeld
      cases z with
      | true =>
        go_wp2_with (first
          | (go_at_call 21; (with_reducible refine Calls.cE (lineMeetNo (by omega) hv1 hr1 HZ) ?_); intros)
          | (go_at_call 42; (with_reducible refine Calls.cPQB (refMeetNo (by omega) HZ) ?_); intros)
          | (go_at_call 25; (with_reducible refine Calls.cE sameP0 ?_); intros))
        refine rgn [] [] fun hHeld => ?_
        refine st 0 fun K hK => ?_
        go_simp
        (with_reducible refine Calls.cE (known05C) ?_); intros
        refine hd hK ?_
        clear hHeld hK K
        intro hHeld
        refine tk 1 hHeld ?_
        refine tk 2 hHeld ?_
        refine tk 3 hHeld ?_
        refine tk 5 hHeld ?_
        refine tk 6 hHeld ?_
        refine st 4 fun K hK => ?_
        go_simp
        (with_reducible refine Calls.cE (lineSameC (by omega) hv1 hr1 (same_cmpV H1 r1)) ?_); intros
        refine hd hK ?_
        clear hHeld hK K
        intro hHeld
        refine st 7 fun K hK => ?_
        go_simp
        (with_reducible refine Calls.cE (refCmpV (by omega) H1) ?_); intros
        refine hd hK ?_
        clear hHeld hK K
        intro hHeld
        refine tk 8 hHeld ?_
        refine tk 9 hHeld ?_
        refine tk 10 hHeld ?_
        refine tk 11 hHeld ?_
        refine tk 12 hHeld ?_
        refine tk 13 hHeld ?_
        refine tk 15 hHeld ?_
        refine tk 16 hHeld ?_
        refine st 14 fun K hK => ?_
        go_simp
        (with_reducible refine Calls.cE (lineOppositeC (by omega) hv1 hr1 (opp_cmpV H2 r2)) ?_); intros
        refine hd hK ?_
        clear hHeld hK K
        intro hHeld
        refine st 17 fun K hK => ?_
        go_simp
        (with_reducible refine Calls.cLZ (refRevC) ?_); intros
        refine hd hK ?_
        clear hHeld hK K
        intro hHeld
        refine st 18 fun K hK => ?_
        go_simp
        (with_reducible refine Calls.cE (refCmpV (by omega) H2) ?_); intros
        refine hd hK ?_
        clear hHeld hK K
        intro hHeld
        refine tk 19 hHeld ?_
        refine tk 20 hHeld ?_
        refine tk 21 hHeld ?_
        refine tk 22 hHeld ?_
        refine tk 23 hHeld ?_
        refine tk 24 hHeld ?_
        refine tk 26 hHeld ?_
        refine tk 27 hHeld ?_
        refine st 25 fun K hK => ?_
        go_simp
        (with_reducible refine Calls.cE (lineParallelC (by omega) hv1 hr1 HZ) ?_); intros
        refine hd hK ?_
        clear hHeld hK K
        intro hHeld
        refine st 28 fun K hK => ?_
        go_simp
        (with_reducible refine Calls.cE (refParallelV (by omega) HZ) ?_); intros
        refine hd hK ?_
        clear hHeld hK K
        intro hHeld
        refine tk 29 hHeld ?_
        refine tk 30 hHeld ?_
        refine tk 31 hHeld ?_
        refine tk 32 hHeld ?_
        refine tk 33 hHeld ?_
        refine tk 35 hHeld ?_
        refine tk 36 hHeld ?_
        refine st 34 fun K hK => ?_
        go_simp
        (with_reducible refine Calls.cE (lineCompareV (by omega) hv1 hr1 H1) ?_); intros
        refine hd hK ?_
        clear hHeld hK K
        intro hHeld
        refine st 37 fun K hK => ?_
        go_simp
        (with_reducible refine Calls.cE (refCmpV (by omega) H1) ?_); intros
        refine hd hK ?_
        clear hHeld hK K
        intro hHeld
        refine tk 38 hHeld ?_
        refine tk 39 hHeld ?_
        refine tk 40 hHeld ?_
        refine dn ?_
        clear hHeld
        go_wp2
        go_ret
        exact E.fin rfl
      | false =>
        go_wp2_with (first
          | (go_at_call 21; (with_reducible refine Calls.cPAB (lineMeetOk (by omega) hv1 hr1 HZ) ?_); intros)
          | (go_at_call 42; (with_reducible refine Calls.cPQB (refMeetOk (by omega) HZ) ?_); intros)
          | (go_at_call 43; (with_reducible refine Calls.cE (sameP05B (by omega) mr_x mr_y) ?_); intros))
        refine rgn [] [] fun hHeld => ?_
        refine st 0 fun K hK => ?_
        go_simp
        (with_reducible refine Calls.cE (known05C) ?_); intros
        refine hd hK ?_
        clear hHeld hK K
        intro hHeld
        refine tk 1 hHeld ?_
        refine tk 2 hHeld ?_
        refine tk 3 hHeld ?_
        refine tk 5 hHeld ?_
        refine tk 6 hHeld ?_
        refine st 4 fun K hK => ?_
        go_simp
        (with_reducible refine Calls.cE (lineSameC (by omega) hv1 hr1 (same_cmpV H1 r1)) ?_); intros
        refine hd hK ?_
        clear hHeld hK K
        intro hHeld
        refine st 7 fun K hK => ?_
        go_simp
        (with_reducible refine Calls.cE (refCmpV (by omega) H1) ?_); intros
        refine hd hK ?_
        clear hHeld hK K
        intro hHeld
        refine tk 8 hHeld ?_
        refine tk 9 hHeld ?_
        refine tk 10 hHeld ?_
        refine tk 11 hHeld ?_
        refine tk 12 hHeld ?_
        refine tk 13 hHeld ?_
        refine tk 15 hHeld ?_
        refine tk 16 hHeld ?_
        refine st 14 fun K hK => ?_
        go_simp
        (with_reducible refine Calls.cE (lineOppositeC (by omega) hv1 hr1 (opp_cmpV H2 r2)) ?_); intros
        refine hd hK ?_
        clear hHeld hK K
        intro hHeld
        refine st 17 fun K hK => ?_
        go_simp
        (with_reducible refine Calls.cLZ (refRevC) ?_); intros
        refine hd hK ?_
        clear hHeld hK K
        intro hHeld
        refine st 18 fun K hK => ?_
        go_simp
        (with_reducible refine Calls.cE (refCmpV (by omega) H2) ?_); intros
        refine hd hK ?_
        clear hHeld hK K
        intro hHeld
        refine tk 19 hHeld ?_
        refine tk 20 hHeld ?_
        refine tk 21 hHeld ?_
        refine tk 22 hHeld ?_
        refine tk 23 hHeld ?_
        refine tk 24 hHeld ?_
        refine tk 26 hHeld ?_
        refine tk 27 hHeld ?_
        refine st 25 fun K hK => ?_
        go_simp
        (with_reducible refine Calls.cE (lineParallelC (by omega) hv1 hr1 HZ) ?_); intros
        refine hd hK ?_
        clear hHeld hK K
        intro hHeld
        refine st 28 fun K hK => ?_
        go_simp
        (with_reducible refine Calls.cE (refParallelV (by omega) HZ) ?_); intros
        refine hd hK ?_
        clear hHeld hK K
        intro hHeld
        refine tk 29 hHeld ?_
        refine tk 30 hHeld ?_
        refine tk 31 hHeld ?_
        refine tk 32 hHeld ?_
        refine tk 33 hHeld ?_
        refine tk 35 hHeld ?_
        refine tk 36 hHeld ?_
        refine st 34 fun K hK => ?_
        go_simp
        (with_reducible refine Calls.cE (lineCompareV (by omega) hv1 hr1 H1) ?_); intros
        refine hd hK ?_
        clear hHeld hK K
        intro hHeld
        refine st 37 fun K hK => ?_
        go_simp
        (with_reducible refine Calls.cE (refCmpV (by omega) H1) ?_); intros
        refine hd hK ?_
        clear hHeld hK K
        intro hHeld
        refine tk 38 hHeld ?_
        refine tk 39 hHeld ?_
        refine tk 40 hHeld ?_
        refine dn ?_
        clear hHeld
        go_wp2
        go_ret
        exact E.fin rfl
    · have e0 : (sw == 0) = false := by rw [beq_eq_false_iff_ne]; exact z0
      have e1 : (sw == 1) = false := by rw [beq_eq_false_iff_ne]; exact z1
      clear z0 z1
      have hwr : Hid (LnV (-ma) (-mb) (-mc)) := hv2.out.rev
      obtain ⟨v1, q1⟩ : ∃ v, cmpL ((la : Int) : Rat) ((lb : Int) : Rat) ((lc : Int) : Rat) ((ma : Int) : Rat) ((mb : Int) : Rat) ((mc : Int) : Rat) = v := ⟨_, rfl⟩
      obtain ⟨v2, q2⟩ : ∃ v, cmpL ((la : Int) : Rat) ((lb : Int) : Rat) ((lc : Int) : Rat) ((-ma : Int) : Rat) ((-mb : Int) : Rat) ((-mc : Int) : Rat) = v := ⟨_, rfl⟩
      obtain ⟨z, hz⟩ : ∃ z, decide (((la : Int) : Rat) * ((mb : Int) : Rat) - ((lb : Int) : Rat) * ((ma : Int) : Rat) = 0) = z := ⟨_, rfl⟩
      have H1 := Lib.hid q1
      have H2 := Lib.hid q2
      have HZ := Lib.hid hz
      clear q1 q2 hz
      obtain ⟨s1, r1⟩ : ∃ s, (v1 == 0) = s := ⟨_, rfl⟩
      obtain ⟨s2, r2⟩ : ∃ s, (v2 == 0) = s := ⟨_, rfl⟩
      go_wp2_with (first | (go_at_call 41; (with_reducible refine Calls.cLZ (refRevC) ?_); intros))
      refine rgnW [] [] fun w0 ew hHeld => ?_
      refine tk 0 hHeld ?_
      refine tk 2 hHeld ?_
      refine wpAnyT_inv [(1, 28), (3, 30), (4, 6), (5, 7)] (fun i => match i with | 1 => [] | 3 => [1] | 4 => [] | 5 => [] | _ => []) [phiLZ la lb lc 2, phiLZ ma mb mc 2, phiB w0 30 [.bool false, .slice none 0 0, .bool false, .slice none 0 0, .bool false, .slice none 0 0], phiB w0 30 [.bool false, .slice none 0 0, .bool false, .slice none 0 0, .bool false, .slice none 0 0]] [4, 5] 2 (by rfl) (by decide +kernel) (by decide) (by decide) (by kernel_rfl) ?_ (fun _ _ => Ex.below) hHeld ?_ ?_
      · intro i hi v W h
        simp only [List.mem_cons, List.not_mem_nil, or_false] at hi
        rcases hi with rfl | rfl
        all_goals exact phiB.old h
      · intro i hi f W hSw hbw hp
        have kw := Kp1.mk hbw
        have kv := kpOf ew (W := W)
        have kz : Kz w0 W := ⟨kv.out.size⟩
        have hSx := Ex1.mk hSw
        clear hHeld
        simp only [List.map_cons, List.map_nil, List.mem_cons, List.not_mem_nil, or_false] at hi
        rcases hi with rfl | rfl | rfl | rfl
        · refine ⟨_, by simp; rfl, fun K' hK => ?_⟩
          clear hp
          simp only [putAll, Act.put, List.setIfInBounds_toArray, List.set_cons_zero, List.set_cons_succ] at hK ⊢
          generalize f 1 = v1 at *
          generalize f 3 = v3 at *
          generalize f 4 = v4 at *
          generalize f 5 = v5 at *
          go_simp
          (with_reducible refine Calls.cLZ (toLC (by omega)) ?_); intros
          refine hK.out _ _ _ rfl (inferInstance : Kp W _).out ?_ ?_
          · exact phiLZ.fin rfl (by omega) rfl (by omega) rfl (by omega)
          · exact fun h => absurd h (by decide)
        · have h1 : phiLZ la lb lc 2 (f 1) W := hp 1 (by decide)
          refine ⟨_, by simp; rfl, fun K' hK => ?_⟩
          clear hp
          simp only [putAll, Act.put, List.setIfInBounds_toArray, List.set_cons_zero, List.set_cons_succ] at hK ⊢
          generalize f 1 = v1 at *
          generalize f 3 = v3 at *
          generalize f 4 = v4 at *
          generalize f 5 = v5 at *
          obtain ⟨gx1, ax1, lx1, cx1, gy1, ay1, ly1, cy1, gz1, az1, lz1, cz1, rfl, ix1, iy1, iz1⟩ := h1
          go_simp
          (with_reducible refine Calls.cLZ (toLC (by omega)) ?_); intros
          refine hK.out _ _ _ rfl (inferInstance : Kp W _).out ?_ ?_
          · exact phiLZ.fin rfl (by omega) rfl (by omega) rfl (by omega)
          · exact fun h => absurd h (by decide)
        · refine ⟨_, by simp; rfl, fun K' hK => ?_⟩
          clear hp
          simp only [putAll, Act.put, List.setIfInBounds_toArray, List.set_cons_zero, List.set_cons_succ] at hK ⊢
          generalize f 1 = v1 at *
          generalize f 3 = v3 at *
          generalize f 4 = v4 at *
          generalize f 5 = v5 at *
          go_simp
          refine hK.out _ _ _ rfl (inferInstance : Kp W _).out ?_ ?_
          · exact phiB.fin
          · exact fun _ => ⟨_, rfl, Nat.le_refl _⟩
        · refine ⟨_, by simp; rfl, fun K' hK => ?_⟩
          clear hp
          simp only [putAll, Act.put, List.setIfInBounds_toArray, List.set_cons_zero, List.set_cons_succ] at hK ⊢
          generalize f 1 = v1 at *
          generalize f 3 = v3 at *
          generalize f 4 = v4 at *
          generalize f 5 = v5 at *
          go_simp
          refine hK.out _ _ _ rfl (inferInstance : Kp W _).out ?_ ?_
          · exact phiB.fin
          · exact fun _ => ⟨_, rfl, Nat.le_refl _⟩
      intro f W hSw hbw hf hne
      have kw := Kp1.mk hbw
      have hSx := Ex1.mk hSw
      clear hHeld
      have kv := kpOf ew (W := W)
      have kz : Kz w0 W := ⟨kv.out.size⟩
      have h1 : phiLZ la lb lc 2 (f 1) W := hf 1 (by decide)
      have h3 : phiLZ ma mb mc 2 (f 3) W := hf 3 (by decide)
      have h4 : phiB w0 30 [.bool false, .slice none 0 0, .bool false, .slice none 0 0, .bool false, .slice none 0 0] (f 4) W := hf 4 (by decide)
      have h5 : phiB w0 30 [.bool false, .slice none 0 0, .bool false, .slice none 0 0, .bool false, .slice none 0 0] (f 5) W := hf 5 (by decide)
      have n4_5 := hne 4 5 (by decide) (by decide) (by decide) (by decide) (by decide)
      clear hf hne
      simp only [putAll, lset, List.map_cons, List.map_nil, Act.put, List.setIfInBounds_toArray, List.set_cons_zero, List.set_cons_succ]
      generalize f 1 = v1 at *
      generalize f 3 = v3 at *
      generalize f 4 = v4 at *
      generalize f 5 = v5 at *
      obtain ⟨gx1, ax1, lx1, cx1, gy1, ay1, ly1, cy1, gz1, az1, lz1, cz1, rfl, ix1, iy1, iz1⟩ := h1
      obtain ⟨gx3, ax3, lx3, cx3, gy3, ay3, ly3, cy3, gz3, az3, lz3, cz3, rfl, ix3, iy3, iz3⟩ := h3
      obtain ⟨b4, rfl, i4, j4, k4⟩ := h4
      obtain ⟨b5, rfl, i5, j5, k5⟩ := h5
      have nw4 := nwOf ew j4
      have gg4 := ggOf ew k4
      have gl4 : Ge w b4 := ⟨by have h2 := j4.out; rw [ew.out] at h2; exact Nat.le_trans (inferInstance : Kp w _).out.size h2⟩
      have nw5 := nwOf ew j5
      have gg5 := ggOf ew k5
      have gl5 : Ge w b5 := ⟨by have h2 := j5.out; rw [ew.out] at h2; exact Nat.le_trans (inferInstance : Kp w _).out.size h2⟩
      have n4_5 := ptr_ne n4_5
      have n5_4 : NeN b5 b4 := ⟨fun e => n4_5.out e.symm⟩
      have hHeld := hSw
      refine st 6 fun K hK => ?_
      go_simp
      refine hd hK ?_
      clear hHeld hK K
      intro hHeld
      refine st 7 fun K hK => ?_
      go_simp
      refine hd hK ?_
      clear hHeld hK K
      intro hHeld
      refine dn ?_
      clear hHeld
      cases z with
      | true =>
        go_wp2_with (first
          | (go_at_call 21; (with_reducible refine Calls.cE (lineMeetNo (by omega) hv1 hv2 HZ) ?_); intros)
          | (go_at_call 42; (with_reducible refine Calls.cPQB (refMeetNo (by omega) HZ) ?_); intros)
          | (go_at_call 25; (with_reducible refine Calls.cE sameP0 ?_); intros))
        refine rgn [] [] fun hHeld => ?_
        refine st 0 fun K hK => ?_
        go_simp
        (with_reducible refine Calls.cE (known05C) ?_); intros
        refine hd hK ?_
        clear hHeld hK K
        intro hHeld
        refine tk 1 hHeld ?_
        refine tk 2 hHeld ?_
        refine tk 3 hHeld ?_
        refine tk 5 hHeld ?_
        refine tk 6 hHeld ?_
        refine st 4 fun K hK => ?_
        go_simp
        (with_reducible refine Calls.cE (lineSameC (by omega) hv1 hv2 (same_cmpV H1 r1)) ?_); intros
        refine hd hK ?_
        clear hHeld hK K
        intro hHeld
        refine st 7 fun K hK => ?_
        go_simp
        (with_reducible refine Calls.cE (refCmpV (by omega) H1) ?_); intros
        refine hd hK ?_
        clear hHeld hK K
        intro hHeld
        refine tk 8 hHeld ?_
        refine tk 9 hHeld ?_
        refine tk 10 hHeld ?_
        refine tk 11 hHeld ?_
        refine tk 12 hHeld ?_
        refine tk 13 hHeld ?_
        refine tk 15 hHeld ?_
        refine tk 16 hHeld ?_
        refine st 14 fun K hK => ?_
        go_simp
        (with_reducible refine Calls.cE (lineOppositeC (by omega) hv1 hv2 (opp_cmpV H2 r2)) ?_); intros
        refine hd hK ?_
        clear hHeld hK K
        intro hHeld
        refine st 17 fun K hK => ?_
        go_simp
        (with_reducible refine Calls.cLZ (refRevC) ?_); intros
        refine hd hK ?_
        clear hHeld hK K
        intro hHeld
        refine st 18 fun K hK => ?_
        go_simp
        (with_reducible refine Calls.cE (refCmpV (by omega) H2) ?_); intros
        refine hd hK ?_
        clear hHeld hK K
        intro hHeld
        refine tk 19 hHeld ?_
        refine tk 20 hHeld ?_
        refine tk 21 hHeld ?_
        refine tk 22 hHeld ?_
        refine tk 23 hHeld ?_
        refine tk 24 hHeld ?_
        refine tk 26 hHeld ?_
        refine tk 27 hHeld ?_
        refine st 25 fun K hK => ?_
        go_simp
        (with_reducible refine Calls.cE (lineParallelC (by omega) hv1 hv2 HZ) ?_); intros
        refine hd hK ?_
        clear hHeld hK K
        intro hHeld
        refine st 28 fun K hK => ?_
        go_simp
        (with_reducible refine Calls.cE (refParallelV (by omega) HZ) ?_); intros
        refine hd hK ?_
        clear hHeld hK K
        intro hHeld
        refine tk 29 hHeld ?_
        refine tk 30 hHeld ?_
        refine tk 31 hHeld ?_
        refine tk 32 hHeld ?_
        refine tk 33 hHeld ?_
        refine tk 35 hHeld ?_
        refine tk 36 hHeld ?_
        refine st 34 fun K hK => ?_
        go_simp
        (with_reducible refine Calls.cE (lineCompareV (by omega) hv1 hv2 H1) ?_); intros
        refine hd hK ?_
        clear hHeld hK K
        intro hHeld
        refine st 37 fun K hK => ?_
        go_simp
        (with_reducible refine Calls.cE (refCmpV (by omega) H1) ?_); intros
        refine hd hK ?_
        clear hHeld hK K
        intro hHeld
        refine tk 38 hHeld ?_
        refine tk 39 hHeld ?_
        refine tk 40 hHeld ?_
        refine dn ?_
        clear hHeld
        go_wp2
        go_ret
        exact E.fin rfl
      | false =>
        go_wp2_with (first
          | (go_at_call 21; (with_reducible refine Calls.cPAB (lineMeetOk (by omega) hv1 hv2 HZ) ?_); intros)
          | (go_at_call 42; (with_reducible refine Calls.cPQB (refMeetOk (by omega) HZ) ?_); intros)
          | (go_at_call 43; (with_reducible refine Calls.cE (sameP05B (by omega) mr_x mr_y) ?_); intros))
        refine rgn [] [] fun hHeld => ?_
        refine st 0 fun K hK => ?_
        go_simp
        (with_reducible refine Calls.cE (known05C) ?_); intros
        refine hd hK ?_
        clear hHeld hK K
        intro hHeld
        refine tk 1 hHeld ?_
        refine tk 2 hHeld ?_
        refine tk 3 hHeld ?_
        refine tk 5 hHeld ?_
        refine tk 6 hHeld ?_
        refine st 4 fun K hK => ?_
        go_simp
        (with_reducible refine Calls.cE (lineSameC (by omega) hv1 hv2 (same_cmpV H1 r1)) ?_); intros
        refine hd hK ?_
        clear hHeld hK K
        intro hHeld
        refine st 7 fun K hK => ?_
        go_simp
        (with_reducible refine Calls.cE (refCmpV (by omega) H1) ?_); intros
        refine hd hK ?_
        clear hHeld hK K
        intro hHeld
        refine tk 8 hHeld ?_
        refine tk 9 hHeld ?_
        refine tk 10 hHeld ?_
        refine tk 11 hHeld ?_
        refine tk 12 hHeld ?_
        refine tk 13 hHeld ?_
        refine tk 15 hHeld ?_
        refine tk 16 hHeld ?_
        refine st 14 fun K hK => ?_
        go_simp
        (with_reducible refine Calls.cE (lineOppositeC (by omega) hv1 hv2 (opp_cmpV H2 r2)) ?_); intros
        refine hd hK ?_
        clear hHeld hK K
        intro hHeld
        refine st 17 fun K hK => ?_
        go_simp
        (with_reducible refine Calls.cLZ (refRevC) ?_); intros
        refine hd hK ?_
        clear hHeld hK K
        intro hHeld
        refine st 18 fun K hK => ?_
        go_simp
        (with_reducible refine Calls.cE (refCmpV (by omega) H2) ?_); intros
        refine hd hK ?_
        clear hHeld hK K
        intro hHeld
        refine tk 19 hHeld ?_
        refine tk 20 hHeld ?_
        refine tk 21 hHeld ?_
        refine tk 22 hHeld ?_
        refine tk 23 hHeld ?_
        refine tk 24 hHeld ?_
        refine tk 26 hHeld ?_
        refine tk 27 hHeld ?_
        refine st 25 fun K hK => ?_
        go_simp
        (with_reducible refine Calls.cE (lineParallelC (by omega) hv1 hv2 HZ) ?_); intros
        refine hd hK ?_
        clear hHeld hK K
        intro hHeld
        refine st 28 fun K hK => ?_
        go_simp
        (with_reducible refine Calls.cE (refParallelV (by omega) HZ) ?_); intros
        refine hd hK ?_
        clear hHeld hK K
        intro hHeld
        refine tk 29 hHeld ?_
        refine tk 30 hHeld ?_
        refine tk 31 hHeld ?_
        refine tk 32 hHeld ?_
        refine tk 33 hHeld ?_
        refine tk 35 hHeld ?_
        refine tk 36 hHeld ?_
        refine st 34 fun K hK => ?_
        go_simp
        (with_reducible refine Calls.cE (lineCompareV (by omega) hv1 hv2 H1) ?_); intros
        refine hd hK ?_
        clear hHeld hK K
        intro hHeld
        refine st 37 fun K hK => ?_
        go_simp
        (with_reducible refine Calls.cE (refCmpV (by omega) H1) ?_); intros
        refine hd hK ?_
        clear hHeld hK K
        intro hHeld
        refine tk 38 hHeld ?_
        refine tk 39 hHeld ?_
        refine tk 40 hHeld ?_
        refine dn ?_
        clear hHeld
        go_wp2
        go_ret
        exact E.fin rfl
end Go.Proofs.YtfdgglddldlpjaaGreat
