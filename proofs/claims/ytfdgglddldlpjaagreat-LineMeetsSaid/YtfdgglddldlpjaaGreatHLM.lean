/-
  Texts of this claim, joined: Ln10, Ln11, LawLM.
-/
import Derived.Test.YtfdgglddldlpjaaGreatGS
/- The common point of two lines: packages geo and line. printed by a small program (mkln10.py). -/
namespace Go.Proofs.YtfdgglddldlpjaaGreat
open Go.RowKit
set_option maxRecDepth 100000
set_option maxHeartbeats 40000000
set_option synthInstance.maxSize 100000
set_option synthInstance.maxHeartbeats 1000000
set_option linter.unusedVariables false
set_option linter.unusedSimpArgs false

theorem gMeetOk {w : World} {n1x d1x n1y d1y n1z d1z n2x d2x n2y d2y n2z d2z : Int} {p1x p1y p1z p2x p2y p2z : Option Addr} {la lb lc ma mb mc : Rat} {k1x k1y k1z k2x k2y k2z : Nat} [h1x : CF w (.agg #[.int .i64 n1x, .int .i64 d1x, .pointer p1x]) la k1x] [h1y : CF w (.agg #[.int .i64 n1y, .int .i64 d1y, .pointer p1y]) lb k1y] [h1z : CF w (.agg #[.int .i64 n1z, .int .i64 d1z, .pointer p1z]) lc k1z] [h2x : CF w (.agg #[.int .i64 n2x, .int .i64 d2x, .pointer p2x]) ma k2x] [h2y : CF w (.agg #[.int .i64 n2y, .int .i64 d2y, .pointer p2y]) mb k2y] [h2z : CF w (.agg #[.int .i64 n2z, .int .i64 d2z, .pointer p2z]) mc k2z] (b : k1x ≤ 8000 ∧ k1y ≤ 8000 ∧ k1z ≤ 8000 ∧ k2x ≤ 8000 ∧ k2y ≤ 8000 ∧ k2z ≤ 8000) (HZ : Hid (decide (la * mb - lb * ma = 0) = false)) :
    Calls Tryz.prog 71 #[.agg #[.int .i64 n1x, .int .i64 d1x, .pointer p1x, .int .i64 n1y, .int .i64 d1y, .pointer p1y, .int .i64 n1z, .int .i64 d1z, .pointer p1z], .agg #[.int .i64 n2x, .int .i64 d2x, .pointer p2x, .int .i64 n2y, .int .i64 d2y, .pointer p2y, .int .i64 n2z, .int .i64 d2z, .pointer p2z]] w (PFBRet w ((lb * mc - lc * mb) / (la * mb - lb * ma)) ((lc * ma - la * mc) / (la * mb - lb * ma)) true (3 * (k1x + k1y + k1z + k2x + k2y + k2z) + 100)) := by
  go_enter Tryz.func71, Tryz.ntmps71
  go_upto_region 1 with fail
  go_cut [6] from 9 to 13 (fun t wx => ∃ (b6 : Nat) (n6 d6 : Int) (p6 : Option Addr), t = .pointer (some ⟨b6, 0, none⟩) ∧ Bx wx b6 92 [.int .i64 n6, .int .i64 d6, .pointer p6] ∧ CF wx (.agg #[.int .i64 n6, .int .i64 d6, .pointer p6]) (la * mb - lb * ma) (2 * (k1x + k1y + k1z + k2x + k2y + k2z) + 20) ∧ Bx wx w.heap.size 94 [.int .i64 n1x, .int .i64 d1x, .pointer p1x, .int .i64 n1y, .int .i64 d1y, .pointer p1y, .int .i64 n1z, .int .i64 d1z, .pointer p1z] ∧ Bx wx (w.heap.size + 1) 94 [.int .i64 n2x, .int .i64 d2x, .pointer p2x, .int .i64 n2y, .int .i64 d2y, .pointer p2y, .int .i64 n2z, .int .i64 d2z, .pointer p2z] ∧ Bx wx (w.heap.size + 1 + 1) 108 [.int .i64 0, .int .i64 0, .pointer none, .int .i64 0, .int .i64 0, .pointer none] ∧ CF wx (.agg #[.int .i64 n1x, .int .i64 d1x, .pointer p1x]) la k1x ∧ CF wx (.agg #[.int .i64 n1y, .int .i64 d1y, .pointer p1y]) lb k1y ∧ CF wx (.agg #[.int .i64 n1z, .int .i64 d1z, .pointer p1z]) lc k1z ∧ CF wx (.agg #[.int .i64 n2x, .int .i64 d2x, .pointer p2x]) ma k2x ∧ CF wx (.agg #[.int .i64 n2y, .int .i64 d2y, .pointer p2y]) mb k2y ∧ CF wx (.agg #[.int .i64 n2z, .int .i64 d2z, .pointer p2z]) mc k2z ∧ Kp w wx)
  case first =>
    refine rgn [] [] fun hHeld => ?_
    refine tk 0 hHeld ?_
    refine tk 2 hHeld ?_
    refine wpAnyT_ready (rs := [1, 5]) (by kernel_rfl) (by simp) ?_
    refine AllT.cons (by simp; rfl) (fun K hK => ?_) (AllT.cons (by simp; rfl) (fun K hK => ?_) AllT.nil)
    go_simp
    (with_reducible refine Calls.cPF (lnNormalC (by omega)) ?_); intros
    refine hd hK ?_
    clear hHeld hK K
    intro hHeld
    refine wpAnyT_ready (rs := [3, 5]) (by kernel_rfl) (by simp) ?_
    refine AllT.cons (by simp; rfl) (fun K hK => ?_) (AllT.cons (by simp; rfl) (fun K hK => ?_) AllT.nil)
    go_simp
    (with_reducible refine Calls.cPF (lnNormalC (by omega)) ?_); intros
    refine hd hK ?_
    clear hHeld hK K
    intro hHeld
    refine wpAnyT_ready (rs := [4, 5]) (by kernel_rfl) (by simp) ?_
    refine AllT.cons (by simp; rfl) (fun K hK => ?_) (AllT.cons (by simp; rfl) (fun K hK => ?_) AllT.nil)
    go_simp
    (with_reducible refine Calls.cF (ptCrossC (by omega)) ?_); intros
    refine hd hK ?_
    clear hHeld hK K
    intro hHeld
    refine st 5 fun K hK => ?_
    go_simp
    refine hd hK ?_
    clear hHeld hK K
    intro hHeld
    refine st 6 fun K hK => ?_
    go_simp
    refine hd hK ?_
    clear hHeld hK K
    intro hHeld
    refine dn ?_
    clear hHeld
    go_wp2_with fail
    go_meet
    exact ⟨_, _, _, _, rfl, inferInstance, CF.cast inferInstance rfl (by omega), inferInstance, inferInstance, inferInstance, inferInstance, inferInstance, inferInstance, inferInstance, inferInstance, inferInstance, inferInstance⟩
    go_simp
    refine hd hK ?_
    clear hHeld hK K
    intro hHeld
    refine st 4 fun K hK => ?_
    go_simp
    (with_reducible refine Calls.cF (ptCrossC (by omega)) ?_); intros
    refine hd hK ?_
    clear hHeld hK K
    intro hHeld
    refine st 6 fun K hK => ?_
    go_simp
    refine hd hK ?_
    clear hHeld hK K
    intro hHeld
    refine dn ?_
    clear hHeld
    go_wp2_with fail
    go_meet
    exact ⟨_, _, _, _, rfl, inferInstance, CF.cast inferInstance rfl (by omega), inferInstance, inferInstance, inferInstance, inferInstance, inferInstance, inferInstance, inferInstance, inferInstance, inferInstance, inferInstance⟩
    go_simp
    refine hd hK ?_
    clear hHeld hK K
    intro hHeld
    refine st 3 fun K hK => ?_
    go_simp
    (with_reducible refine Calls.cPF (lnNormalC (by omega)) ?_); intros
    refine hd hK ?_
    clear hHeld hK K
    intro hHeld
    refine st 4 fun K hK => ?_
    go_simp
    (with_reducible refine Calls.cF (ptCrossC (by omega)) ?_); intros
    refine hd hK ?_
    clear hHeld hK K
    intro hHeld
    refine st 6 fun K hK => ?_
    go_simp
    refine hd hK ?_
    clear hHeld hK K
    intro hHeld
    refine dn ?_
    clear hHeld
    go_wp2_with fail
    go_meet
    exact ⟨_, _, _, _, rfl, inferInstance, CF.cast inferInstance rfl (by omega), inferInstance, inferInstance, inferInstance, inferInstance, inferInstance, inferInstance, inferInstance, inferInstance, inferInstance, inferInstance⟩
    go_simp
    refine hd hK ?_
    clear hHeld hK K
    intro hHeld
    refine st 1 fun K hK => ?_
    go_simp
    (with_reducible refine Calls.cPF (lnNormalC (by omega)) ?_); intros
    refine hd hK ?_
    clear hHeld hK K
    intro hHeld
    refine st 3 fun K hK => ?_
    go_simp
    (with_reducible refine Calls.cPF (lnNormalC (by omega)) ?_); intros
    refine hd hK ?_
    clear hHeld hK K
    intro hHeld
    refine st 4 fun K hK => ?_
    go_simp
    (with_reducible refine Calls.cF (ptCrossC (by omega)) ?_); intros
    refine hd hK ?_
    clear hHeld hK K
    intro hHeld
    refine st 6 fun K hK => ?_
    go_simp
    refine hd hK ?_
    clear hHeld hK K
    intro hHeld
    refine dn ?_
    clear hHeld
    go_wp2_with fail
    go_meet
    exact ⟨_, _, _, _, rfl, inferInstance, CF.cast inferInstance rfl (by omega), inferInstance, inferInstance, inferInstance, inferInstance, inferInstance, inferInstance, inferInstance, inferInstance, inferInstance, inferInstance⟩
  case rest =>
   obtain ⟨b6, n6, d6, p6, rfl, i1, i2, i3, i4, i5, i6, i7, i8, i9, i10, i11, i12⟩ := hcut
   go_upto_region 4 with (first | (go_at_call 81; (with_reducible refine Calls.cE (rZeroV HZ) ?_); intros))
   go_cut [7] from 17 to 29 (fun t wx => ∃ (b7 : Nat) (n7 d7 : Int) (p7 : Option Addr), t = .pointer (some ⟨b7, 0, none⟩) ∧ Bx wx b7 92 [.int .i64 n7, .int .i64 d7, .pointer p7] ∧ CF wx (.agg #[.int .i64 n7, .int .i64 d7, .pointer p7]) ((lb * mc - lc * mb) / (la * mb - lb * ma)) (3 * (k1x + k1y + k1z + k2x + k2y + k2z) + 100) ∧ Kp wc wx)
   case first =>
    refine rgn [] [] fun hHeld => ?_
    refine tk 0 hHeld ?_
    refine tk 1 hHeld ?_
    refine tk 2 hHeld ?_
    refine tk 3 hHeld ?_
    refine tk 5 hHeld ?_
    refine tk 6 hHeld ?_
    refine tk 7 hHeld ?_
    refine tk 8 hHeld ?_
    refine tk 11 hHeld ?_
    refine wpAnyT_ready (rs := [4, 13]) (by kernel_rfl) (by simp) ?_
    refine AllT.cons (by simp; rfl) (fun K hK => ?_) (AllT.cons (by simp; rfl) (fun K hK => ?_) AllT.nil)
    go_simp
    (with_reducible refine Calls.cF (rMulC (by omega)) ?_); intros
    refine hd hK ?_
    clear hHeld hK K
    intro hHeld
    refine wpAnyT_ready (rs := [9, 13]) (by kernel_rfl) (by simp) ?_
    refine AllT.cons (by simp; rfl) (fun K hK => ?_) (AllT.cons (by simp; rfl) (fun K hK => ?_) AllT.nil)
    go_simp
    (with_reducible refine Calls.cF (rMulC (by omega)) ?_); intros
    refine hd hK ?_
    clear hHeld hK K
    intro hHeld
    refine wpAnyT_ready (rs := [10, 13]) (by kernel_rfl) (by simp) ?_
    refine AllT.cons (by simp; rfl) (fun K hK => ?_) (AllT.cons (by simp; rfl) (fun K hK => ?_) AllT.nil)
    go_simp
    (with_reducible refine Calls.cF (rSubC (by omega)) ?_); intros
    refine hd hK ?_
    clear hHeld hK K
    intro hHeld
    refine wpAnyT_ready (rs := [12, 13]) (by kernel_rfl) (by simp) ?_
    refine AllT.cons (by simp; rfl) (fun K hK => ?_) (AllT.cons (by simp; rfl) (fun K hK => ?_) AllT.nil)
    go_simp
    (with_reducible refine Calls.cF (rQuoC (by omega)) ?_); intros
    refine hd hK ?_
    clear hHeld hK K
    intro hHeld
    refine st 13 fun K hK => ?_
    go_simp
    refine hd hK ?_
    clear hHeld hK K
    intro hHeld
    refine st 14 fun K hK => ?_
    go_simp
    refine hd hK ?_
    clear hHeld hK K
    intro hHeld
    refine dn ?_
    clear hHeld
    go_wp2_with fail
    go_meet
    exact ⟨_, _, _, _, rfl, inferInstance, CF.cast inferInstance rfl (by omega), inferInstance⟩
    go_simp
    refine hd hK ?_
    clear hHeld hK K
    intro hHeld
    refine st 12 fun K hK => ?_
    go_simp
    (with_reducible refine Calls.cF (rQuoC (by omega)) ?_); intros
    refine hd hK ?_
    clear hHeld hK K
    intro hHeld
    refine st 14 fun K hK => ?_
    go_simp
    refine hd hK ?_
    clear hHeld hK K
    intro hHeld
    refine dn ?_
    clear hHeld
    go_wp2_with fail
    go_meet
    exact ⟨_, _, _, _, rfl, inferInstance, CF.cast inferInstance rfl (by omega), inferInstance⟩
    go_simp
    refine hd hK ?_
    clear hHeld hK K
    intro hHeld
    refine st 10 fun K hK => ?_
    go_simp
    (with_reducible refine Calls.cF (rSubC (by omega)) ?_); intros
    refine hd hK ?_
    clear hHeld hK K
    intro hHeld
    refine st 12 fun K hK => ?_
    go_simp
    (with_reducible refine Calls.cF (rQuoC (by omega)) ?_); intros
    refine hd hK ?_
    clear hHeld hK K
    intro hHeld
    refine st 14 fun K hK => ?_
    go_simp
    refine hd hK ?_
    clear hHeld hK K
    intro hHeld
    refine dn ?_
    clear hHeld
    go_wp2_with fail
    go_meet
    exact ⟨_, _, _, _, rfl, inferInstance, CF.cast inferInstance rfl (by omega), inferInstance⟩
    go_simp
    refine hd hK ?_
    clear hHeld hK K
    intro hHeld
    refine st 9 fun K hK => ?_
    go_simp
    (with_reducible refine Calls.cF (rMulC (by omega)) ?_); intros
    refine hd hK ?_
    clear hHeld hK K
    intro hHeld
    refine st 10 fun K hK => ?_
    go_simp
    (with_reducible refine Calls.cF (rSubC (by omega)) ?_); intros
    refine hd hK ?_
    clear hHeld hK K
    intro hHeld
    refine st 12 fun K hK => ?_
    go_simp
    (with_reducible refine Calls.cF (rQuoC (by omega)) ?_); intros
    refine hd hK ?_
    clear hHeld hK K
    intro hHeld
    refine st 14 fun K hK => ?_
    go_simp
    refine hd hK ?_
    clear hHeld hK K
    intro hHeld
    refine dn ?_
    clear hHeld
    go_wp2_with fail
    go_meet
    exact ⟨_, _, _, _, rfl, inferInstance, CF.cast inferInstance rfl (by omega), inferInstance⟩
    go_simp
    refine hd hK ?_
    clear hHeld hK K
    intro hHeld
    refine st 4 fun K hK => ?_
    go_simp
    (with_reducible refine Calls.cF (rMulC (by omega)) ?_); intros
    refine hd hK ?_
    clear hHeld hK K
    intro hHeld
    refine st 9 fun K hK => ?_
    go_simp
    (with_reducible refine Calls.cF (rMulC (by omega)) ?_); intros
    refine hd hK ?_
    clear hHeld hK K
    intro hHeld
    refine st 10 fun K hK => ?_
    go_simp
    (with_reducible refine Calls.cF (rSubC (by omega)) ?_); intros
    refine hd hK ?_
    clear hHeld hK K
    intro hHeld
    refine st 12 fun K hK => ?_
    go_simp
    (with_reducible refine Calls.cF (rQuoC (by omega)) ?_); intros
    refine hd hK ?_
    clear hHeld hK K
    intro hHeld
    refine st 14 fun K hK => ?_
    go_simp
    refine hd hK ?_
    clear hHeld hK K
    intro hHeld
    refine dn ?_
    clear hHeld
    go_wp2_with fail
    go_meet
    exact ⟨_, _, _, _, rfl, inferInstance, CF.cast inferInstance rfl (by omega), inferInstance⟩
   case rest =>
    obtain ⟨b7, n7, d7, p7, rfl, j1, j2, ⟨j3⟩⟩ := hcut
    have j4 := Kp1.mk j3
    have j5 : Kp w wc := inferInstance
    go_upto_region 5 with fail
    go_cut [8] from 30 to 42 (fun t wx => ∃ (b8 : Nat) (n8 d8 : Int) (p8 : Option Addr), t = .pointer (some ⟨b8, 0, none⟩) ∧ Bx wx b8 92 [.int .i64 n8, .int .i64 d8, .pointer p8] ∧ CF wx (.agg #[.int .i64 n8, .int .i64 d8, .pointer p8]) ((lc * ma - la * mc) / (la * mb - lb * ma)) (3 * (k1x + k1y + k1z + k2x + k2y + k2z) + 100) ∧ Kp wc wx)
    case first =>
     refine rgn [] [] fun hHeld => ?_
     refine tk 0 hHeld ?_
     refine tk 1 hHeld ?_
     refine tk 2 hHeld ?_
     refine tk 3 hHeld ?_
     refine tk 5 hHeld ?_
     refine tk 6 hHeld ?_
     refine tk 7 hHeld ?_
     refine tk 8 hHeld ?_
     refine tk 11 hHeld ?_
     refine wpAnyT_ready (rs := [4, 13]) (by kernel_rfl) (by simp) ?_
     refine AllT.cons (by simp; rfl) (fun K hK => ?_) (AllT.cons (by simp; rfl) (fun K hK => ?_) AllT.nil)
     go_simp
     (with_reducible refine Calls.cF (rMulC (by omega)) ?_); intros
     refine hd hK ?_
     clear hHeld hK K
     intro hHeld
     refine wpAnyT_ready (rs := [9, 13]) (by kernel_rfl) (by simp) ?_
     refine AllT.cons (by simp; rfl) (fun K hK => ?_) (AllT.cons (by simp; rfl) (fun K hK => ?_) AllT.nil)
     go_simp
     (with_reducible refine Calls.cF (rMulC (by omega)) ?_); intros
     refine hd hK ?_
     clear hHeld hK K
     intro hHeld
     refine wpAnyT_ready (rs := [10, 13]) (by kernel_rfl) (by simp) ?_
     refine AllT.cons (by simp; rfl) (fun K hK => ?_) (AllT.cons (by simp; rfl) (fun K hK => ?_) AllT.nil)
     go_simp
     (with_reducible refine Calls.cF (rSubC (by omega)) ?_); intros
     refine hd hK ?_
     clear hHeld hK K
     intro hHeld
     refine wpAnyT_ready (rs := [12, 13]) (by kernel_rfl) (by simp) ?_
     refine AllT.cons (by simp; rfl) (fun K hK => ?_) (AllT.cons (by simp; rfl) (fun K hK => ?_) AllT.nil)
     go_simp
     (with_reducible refine Calls.cF (rQuoC (by omega)) ?_); intros
     refine hd hK ?_
     clear hHeld hK K
     intro hHeld
     refine st 13 fun K hK => ?_
     go_simp
     refine hd hK ?_
     clear hHeld hK K
     intro hHeld
     refine st 14 fun K hK => ?_
     go_simp
     refine hd hK ?_
     clear hHeld hK K
     intro hHeld
     refine dn ?_
     clear hHeld
     go_wp2_with fail
     go_meet
     exact ⟨_, _, _, _, rfl, inferInstance, CF.cast inferInstance rfl (by omega), inferInstance⟩
     go_simp
     refine hd hK ?_
     clear hHeld hK K
     intro hHeld
     refine st 12 fun K hK => ?_
     go_simp
     (with_reducible refine Calls.cF (rQuoC (by omega)) ?_); intros
     refine hd hK ?_
     clear hHeld hK K
     intro hHeld
     refine st 14 fun K hK => ?_
     go_simp
     refine hd hK ?_
     clear hHeld hK K
     intro hHeld
     refine dn ?_
     clear hHeld
     go_wp2_with fail
     go_meet
     exact ⟨_, _, _, _, rfl, inferInstance, CF.cast inferInstance rfl (by omega), inferInstance⟩
     go_simp
     refine hd hK ?_
     clear hHeld hK K
     intro hHeld
     refine st 10 fun K hK => ?_
     go_simp
     (with_reducible refine Calls.cF (rSubC (by omega)) ?_); intros
     refine hd hK ?_
     clear hHeld hK K
     intro hHeld
     refine st 12 fun K hK => ?_
     go_simp
     (with_reducible refine Calls.cF (rQuoC (by omega)) ?_); intros
     refine hd hK ?_
     clear hHeld hK K
     intro hHeld
     refine st 14 fun K hK => ?_
     go_simp
     refine hd hK ?_
     clear hHeld hK K
     intro hHeld
     refine dn ?_
     clear hHeld
     go_wp2_with fail
     go_meet
     exact ⟨_, _, _, _, rfl, inferInstance, CF.cast inferInstance rfl (by omega), inferInstance⟩
     go_simp
     refine hd hK ?_
     clear hHeld hK K
     intro hHeld
     refine st 9 fun K hK => ?_
     go_simp
     (with_reducible refine Calls.cF (rMulC (by omega)) ?_); intros
     refine hd hK ?_
     clear hHeld hK K
     intro hHeld
     refine st 10 fun K hK => ?_
     go_simp
     (with_reducible refine Calls.cF (rSubC (by omega)) ?_); intros
     refine hd hK ?_
     clear hHeld hK K
     intro hHeld
     refine st 12 fun K hK => ?_
     go_simp
     (with_reducible refine Calls.cF (rQuoC (by omega)) ?_); intros
     refine hd hK ?_
     clear hHeld hK K
     intro hHeld
     refine st 14 fun K hK => ?_
     go_simp
     refine hd hK ?_
     clear hHeld hK K
     intro hHeld
     refine dn ?_
     clear hHeld
     go_wp2_with fail
     go_meet
     exact ⟨_, _, _, _, rfl, inferInstance, CF.cast inferInstance rfl (by omega), inferInstance⟩
     go_simp
     refine hd hK ?_
     clear hHeld hK K
     intro hHeld
     refine st 4 fun K hK => ?_
     go_simp
     (with_reducible refine Calls.cF (rMulC (by omega)) ?_); intros
     refine hd hK ?_
     clear hHeld hK K
     intro hHeld
     refine st 9 fun K hK => ?_
     go_simp
     (with_reducible refine Calls.cF (rMulC (by omega)) ?_); intros
     refine hd hK ?_
     clear hHeld hK K
     intro hHeld
     refine st 10 fun K hK => ?_
     go_simp
     (with_reducible refine Calls.cF (rSubC (by omega)) ?_); intros
     refine hd hK ?_
     clear hHeld hK K
     intro hHeld
     refine st 12 fun K hK => ?_
     go_simp
     (with_reducible refine Calls.cF (rQuoC (by omega)) ?_); intros
     refine hd hK ?_
     clear hHeld hK K
     intro hHeld
     refine st 14 fun K hK => ?_
     go_simp
     refine hd hK ?_
     clear hHeld hK K
     intro hHeld
     refine dn ?_
     clear hHeld
     go_wp2_with fail
     go_meet
     exact ⟨_, _, _, _, rfl, inferInstance, CF.cast inferInstance rfl (by omega), inferInstance⟩
    case rest =>
     obtain ⟨b8, n8, d8, p8, rfl, l1, l2, ⟨l3⟩⟩ := hcut
     have l4 := Kp1.mk l3
     have l5 : Kp w wc := inferInstance
     go_wp2_with fail
     refine ret_bt rfl Tryz.underlying108 rfl (by kernel_rfl) rfl rfl rfl ?_
     exact PFBRet.fin rfl (by omega) rfl (by omega)

theorem gMeetNo {w : World} {n1x d1x n1y d1y n1z d1z n2x d2x n2y d2y n2z d2z : Int} {p1x p1y p1z p2x p2y p2z : Option Addr} {la lb lc ma mb mc : Rat} {k1x k1y k1z k2x k2y k2z : Nat} [h1x : CF w (.agg #[.int .i64 n1x, .int .i64 d1x, .pointer p1x]) la k1x] [h1y : CF w (.agg #[.int .i64 n1y, .int .i64 d1y, .pointer p1y]) lb k1y] [h1z : CF w (.agg #[.int .i64 n1z, .int .i64 d1z, .pointer p1z]) lc k1z] [h2x : CF w (.agg #[.int .i64 n2x, .int .i64 d2x, .pointer p2x]) ma k2x] [h2y : CF w (.agg #[.int .i64 n2y, .int .i64 d2y, .pointer p2y]) mb k2y] [h2z : CF w (.agg #[.int .i64 n2z, .int .i64 d2z, .pointer p2z]) mc k2z] (b : k1x ≤ 8000 ∧ k1y ≤ 8000 ∧ k1z ≤ 8000 ∧ k2x ≤ 8000 ∧ k2y ≤ 8000 ∧ k2z ≤ 8000) (HZ : Hid (decide (la * mb - lb * ma = 0) = true)) :
    Calls Tryz.prog 71 #[.agg #[.int .i64 n1x, .int .i64 d1x, .pointer p1x, .int .i64 n1y, .int .i64 d1y, .pointer p1y, .int .i64 n1z, .int .i64 d1z, .pointer p1z], .agg #[.int .i64 n2x, .int .i64 d2x, .pointer p2x, .int .i64 n2y, .int .i64 d2y, .pointer p2y, .int .i64 n2z, .int .i64 d2z, .pointer p2z]] w (PFBRet w 0 0 false (3 * (k1x + k1y + k1z + k2x + k2y + k2z) + 100)) := by
  go_enter Tryz.func71, Tryz.ntmps71
  go_upto_region 1 with fail
  go_cut [6] from 9 to 13 (fun t wx => ∃ (b6 : Nat) (n6 d6 : Int) (p6 : Option Addr), t = .pointer (some ⟨b6, 0, none⟩) ∧ Bx wx b6 92 [.int .i64 n6, .int .i64 d6, .pointer p6] ∧ CF wx (.agg #[.int .i64 n6, .int .i64 d6, .pointer p6]) (la * mb - lb * ma) (2 * (k1x + k1y + k1z + k2x + k2y + k2z) + 20) ∧ Bx wx w.heap.size 94 [.int .i64 n1x, .int .i64 d1x, .pointer p1x, .int .i64 n1y, .int .i64 d1y, .pointer p1y, .int .i64 n1z, .int .i64 d1z, .pointer p1z] ∧ Bx wx (w.heap.size + 1) 94 [.int .i64 n2x, .int .i64 d2x, .pointer p2x, .int .i64 n2y, .int .i64 d2y, .pointer p2y, .int .i64 n2z, .int .i64 d2z, .pointer p2z] ∧ Bx wx (w.heap.size + 1 + 1) 108 [.int .i64 0, .int .i64 0, .pointer none, .int .i64 0, .int .i64 0, .pointer none] ∧ CF wx (.agg #[.int .i64 n1x, .int .i64 d1x, .pointer p1x]) la k1x ∧ CF wx (.agg #[.int .i64 n1y, .int .i64 d1y, .pointer p1y]) lb k1y ∧ CF wx (.agg #[.int .i64 n1z, .int .i64 d1z, .pointer p1z]) lc k1z ∧ CF wx (.agg #[.int .i64 n2x, .int .i64 d2x, .pointer p2x]) ma k2x ∧ CF wx (.agg #[.int .i64 n2y, .int .i64 d2y, .pointer p2y]) mb k2y ∧ CF wx (.agg #[.int .i64 n2z, .int .i64 d2z, .pointer p2z]) mc k2z ∧ Kp w wx)
  case first =>
    refine rgn [] [] fun hHeld => ?_
    refine tk 0 hHeld ?_
    refine tk 2 hHeld ?_
    refine wpAnyT_ready (rs := [1, 5]) (by kernel_rfl) (by simp) ?_
    refine AllT.cons (by simp; rfl) (fun K hK => ?_) (AllT.cons (by simp; rfl) (fun K hK => ?_) AllT.nil)
    go_simp
    (with_reducible refine Calls.cPF (lnNormalC (by omega)) ?_); intros
    refine hd hK ?_
    clear hHeld hK K
    intro hHeld
    refine wpAnyT_ready (rs := [3, 5]) (by kernel_rfl) (by simp) ?_
    refine AllT.cons (by simp; rfl) (fun K hK => ?_) (AllT.cons (by simp; rfl) (fun K hK => ?_) AllT.nil)
    go_simp
    (with_reducible refine Calls.cPF (lnNormalC (by omega)) ?_); intros
    refine hd hK ?_
    clear hHeld hK K
    intro hHeld
    refine wpAnyT_ready (rs := [4, 5]) (by kernel_rfl) (by simp) ?_
    refine AllT.cons (by simp; rfl) (fun K hK => ?_) (AllT.cons (by simp; rfl) (fun K hK => ?_) AllT.nil)
    go_simp
    (with_reducible refine Calls.cF (ptCrossC (by omega)) ?_); intros
    refine hd hK ?_
    clear hHeld hK K
    intro hHeld
    refine st 5 fun K hK => ?_
    go_simp
    refine hd hK ?_
    clear hHeld hK K
    intro hHeld
    refine st 6 fun K hK => ?_
    go_simp
    refine hd hK ?_
    clear hHeld hK K
    intro hHeld
    refine dn ?_
    clear hHeld
    go_wp2_with fail
    go_meet
    exact ⟨_, _, _, _, rfl, inferInstance, CF.cast inferInstance rfl (by omega), inferInstance, inferInstance, inferInstance, inferInstance, inferInstance, inferInstance, inferInstance, inferInstance, inferInstance, inferInstance⟩
    go_simp
    refine hd hK ?_
    clear hHeld hK K
    intro hHeld
    refine st 4 fun K hK => ?_
    go_simp
    (with_reducible refine Calls.cF (ptCrossC (by omega)) ?_); intros
    refine hd hK ?_
    clear hHeld hK K
    intro hHeld
    refine st 6 fun K hK => ?_
    go_simp
    refine hd hK ?_
    clear hHeld hK K
    intro hHeld
    refine dn ?_
    clear hHeld
    go_wp2_with fail
    go_meet
    exact ⟨_, _, _, _, rfl, inferInstance, CF.cast inferInstance rfl (by omega), inferInstance, inferInstance, inferInstance, inferInstance, inferInstance, inferInstance, inferInstance, inferInstance, inferInstance, inferInstance⟩
    go_simp
    refine hd hK ?_
    clear hHeld hK K
    intro hHeld
    refine st 3 fun K hK => ?_
    go_simp
    (with_reducible refine Calls.cPF (lnNormalC (by omega)) ?_); intros
    refine hd hK ?_
    clear hHeld hK K
    intro hHeld
    refine st 4 fun K hK => ?_
    go_simp
    (with_reducible refine Calls.cF (ptCrossC (by omega)) ?_); intros
    refine hd hK ?_
    clear hHeld hK K
    intro hHeld
    refine st 6 fun K hK => ?_
    go_simp
    refine hd hK ?_
    clear hHeld hK K
    intro hHeld
    refine dn ?_
    clear hHeld
    go_wp2_with fail
    go_meet
    exact ⟨_, _, _, _, rfl, inferInstance, CF.cast inferInstance rfl (by omega), inferInstance, inferInstance, inferInstance, inferInstance, inferInstance, inferInstance, inferInstance, inferInstance, inferInstance, inferInstance⟩
    go_simp
    refine hd hK ?_
    clear hHeld hK K
    intro hHeld
    refine st 1 fun K hK => ?_
    go_simp
    (with_reducible refine Calls.cPF (lnNormalC (by omega)) ?_); intros
    refine hd hK ?_
    clear hHeld hK K
    intro hHeld
    refine st 3 fun K hK => ?_
    go_simp
    (with_reducible refine Calls.cPF (lnNormalC (by omega)) ?_); intros
    refine hd hK ?_
    clear hHeld hK K
    intro hHeld
    refine st 4 fun K hK => ?_
    go_simp
    (with_reducible refine Calls.cF (ptCrossC (by omega)) ?_); intros
    refine hd hK ?_
    clear hHeld hK K
    intro hHeld
    refine st 6 fun K hK => ?_
    go_simp
    refine hd hK ?_
    clear hHeld hK K
    intro hHeld
    refine dn ?_
    clear hHeld
    go_wp2_with fail
    go_meet
    exact ⟨_, _, _, _, rfl, inferInstance, CF.cast inferInstance rfl (by omega), inferInstance, inferInstance, inferInstance, inferInstance, inferInstance, inferInstance, inferInstance, inferInstance, inferInstance, inferInstance⟩
  case rest =>
   obtain ⟨b6, n6, d6, p6, rfl, i1, i2, i3, i4, i5, i6, i7, i8, i9, i10, i11, i12⟩ := hcut
   go_wp2_with (first | (go_at_call 81; (with_reducible refine Calls.cE (rZeroV HZ) ?_); intros))
   refine ret_bt rfl Tryz.underlying108 rfl (by kernel_rfl) rfl rfl rfl ?_
   exact PFBRet.fin rfl (by omega) rfl (by omega)

theorem lineMeetOk {w : World} {g1x g1y g1z g2x g2y g2z : Bool} {a1x a1y a1z a2x a2y a2z : Option Addr} {l1x c1x l1y c1y l1z c1z l2x c2x l2y c2y l2z c2z k1x k1y k1z k2x k2y k2z : Nat} {la lb lc ma mb mc : Int} [h1x : CZ w (.agg #[.bool g1x, .slice a1x l1x c1x]) la k1x] [h1y : CZ w (.agg #[.bool g1y, .slice a1y l1y c1y]) lb k1y] [h1z : CZ w (.agg #[.bool g1z, .slice a1z l1z c1z]) lc k1z] [h2x : CZ w (.agg #[.bool g2x, .slice a2x l2x c2x]) ma k2x] [h2y : CZ w (.agg #[.bool g2y, .slice a2y l2y c2y]) mb k2y] [h2z : CZ w (.agg #[.bool g2z, .slice a2z l2z c2z]) mc k2z] (b : k1x ≤ 6000 ∧ k1y ≤ 6000 ∧ k1z ≤ 6000 ∧ k2x ≤ 6000 ∧ k2y ≤ 6000 ∧ k2z ≤ 6000) (hv : Hid (LnV la lb lc)) (hw : Hid (LnV ma mb mc)) (HZ : Hid (decide (((la : Int) : Rat) * mb - ((lb : Int) : Rat) * ma = 0) = false)) :
    Calls Tryz.prog 21 #[.agg #[.bool g1x, .slice a1x l1x c1x, .bool g1y, .slice a1y l1y c1y, .bool g1z, .slice a1z l1z c1z], .agg #[.bool g2x, .slice a2x l2x c2x, .bool g2y, .slice a2y l2y c2y, .bool g2z, .slice a2z l2z c2z]] w (PABRet w ((((lb : Int) : Rat) * mc - ((lc : Int) : Rat) * mb) / (((la : Int) : Rat) * mb - ((lb : Int) : Rat) * ma)) ((((lc : Int) : Rat) * ma - ((la : Int) : Rat) * mc) / (((la : Int) : Rat) * mb - ((lb : Int) : Rat) * ma)) true (9 * (max k1x (max k1y k1z) + max k2x (max k2y k2z)) + 300)) := by
  go_enter Tryz.func21, Tryz.ntmps21
  go_wp2_with (first
    | (go_at_call 70; (with_reducible refine Calls.cLFB (lnOfC (by omega) hv) ?_); intros)
    | (go_at_call 70; (with_reducible refine Calls.cLFB (lnOfC (by omega) hw) ?_); intros)
    | (go_at_call 71; (with_reducible refine Calls.cPFB (gMeetOk (by omega) HZ) ?_); intros)
    | (go_at_call 72; (with_reducible refine Calls.cPA (ptApiC (by omega)) ?_); intros))
  refine ret_bt rfl Tryz.underlying54 rfl (by kernel_rfl) rfl rfl rfl ?_
  exact PABRet.fin rfl (by omega) rfl (by omega)

theorem lineMeetNo {w : World} {g1x g1y g1z g2x g2y g2z : Bool} {a1x a1y a1z a2x a2y a2z : Option Addr} {l1x c1x l1y c1y l1z c1z l2x c2x l2y c2y l2z c2z k1x k1y k1z k2x k2y k2z : Nat} {la lb lc ma mb mc : Int} [h1x : CZ w (.agg #[.bool g1x, .slice a1x l1x c1x]) la k1x] [h1y : CZ w (.agg #[.bool g1y, .slice a1y l1y c1y]) lb k1y] [h1z : CZ w (.agg #[.bool g1z, .slice a1z l1z c1z]) lc k1z] [h2x : CZ w (.agg #[.bool g2x, .slice a2x l2x c2x]) ma k2x] [h2y : CZ w (.agg #[.bool g2y, .slice a2y l2y c2y]) mb k2y] [h2z : CZ w (.agg #[.bool g2z, .slice a2z l2z c2z]) mc k2z] (b : k1x ≤ 6000 ∧ k1y ≤ 6000 ∧ k1z ≤ 6000 ∧ k2x ≤ 6000 ∧ k2y ≤ 6000 ∧ k2z ≤ 6000) (hv : Hid (LnV la lb lc)) (hw : Hid (LnV ma mb mc)) (HZ : Hid (decide (((la : Int) : Rat) * mb - ((lb : Int) : Rat) * ma = 0) = true)) :
    Calls Tryz.prog 21 #[.agg #[.bool g1x, .slice a1x l1x c1x, .bool g1y, .slice a1y l1y c1y, .bool g1z, .slice a1z l1z c1z], .agg #[.bool g2x, .slice a2x l2x c2x, .bool g2y, .slice a2y l2y c2y, .bool g2z, .slice a2z l2z c2z]] w (fun e w' => e = .returned (.tuple #[.agg #[.bool false, .slice none 0 0, .slice none 0 0, .bool false, .slice none 0 0, .slice none 0 0], .bool false]) ∧ Below w.heap.size w w') := by
  go_enter Tryz.func21, Tryz.ntmps21
  go_wp2_with (first
    | (go_at_call 70; (with_reducible refine Calls.cLFB (lnOfC (by omega) hv) ?_); intros)
    | (go_at_call 70; (with_reducible refine Calls.cLFB (lnOfC (by omega) hw) ?_); intros)
    | (go_at_call 71; (with_reducible refine Calls.cPFB (gMeetNo (by omega) HZ) ?_); intros)
    | (go_at_call 72; (with_reducible refine Calls.cPA (ptApiC (by omega)) ?_); intros))
  refine ret_bt rfl Tryz.underlying54 rfl (by kernel_rfl) rfl rfl rfl ?_
  exact E.fin rfl

end Go.Proofs.YtfdgglddldlpjaaGreat

/- Plain laws of the common point of two lines. -/
namespace Go.Proofs.YtfdgglddldlpjaaGreat
open Go.RowKit
set_option linter.unusedVariables false

theorem meet_on {a b c a' b' c' : Rat} (h : a * b' - b * a' ≠ 0) : a * ((b * c' - c * b') / (a * b' - b * a')) + b * ((c * a' - a * c') / (a * b' - b * a')) + c = 0 := by
  have e : (a * b' - b * a') * (a * b' - b * a')⁻¹ = 1 := Rat.mul_inv_cancel _ h
  rw [Rat.div_def, Rat.div_def]
  grind
theorem meet_on' {a b c a' b' c' : Rat} (h : a * b' - b * a' ≠ 0) : a' * ((b * c' - c * b') / (a * b' - b * a')) + b' * ((c * a' - a * c') / (a * b' - b * a')) + c' = 0 := by
  have e : (a * b' - b * a') * (a * b' - b * a')⁻¹ = 1 := Rat.mul_inv_cancel _ h
  rw [Rat.div_def, Rat.div_def]
  grind
theorem meet_x {b c a a' b' c' : Int} : ((b : Rat) * c' - c * b') / (a * b' - b * a') = ((b' : Rat) * ((-c : Int) : Rat) - c' * ((-b : Int) : Rat)) / (a' * ((-b : Int) : Rat) - b' * ((-a : Int) : Rat)) := by
  rw [Rat.intCast_neg, Rat.intCast_neg, Rat.intCast_neg, show (b' : Rat) * -(c : Rat) - c' * -(b : Rat) = b * c' - c * b' by grind, show (a' : Rat) * -(b : Rat) - b' * -(a : Rat) = a * b' - b * a' by grind]
theorem meet_y {b c a a' b' c' : Int} : ((c : Rat) * a' - a * c') / (a * b' - b * a') = ((c' : Rat) * ((-a : Int) : Rat) - a' * ((-c : Int) : Rat)) / (a' * ((-b : Int) : Rat) - b' * ((-a : Int) : Rat)) := by
  rw [Rat.intCast_neg, Rat.intCast_neg, Rat.intCast_neg, show (c' : Rat) * -(a : Rat) - a' * -(c : Rat) = c * a' - a * c' by grind, show (a' : Rat) * -(b : Rat) - b' * -(a : Rat) = a * b' - b * a' by grind]
theorem meet_d {a b a' b' : Int} {v : Bool} (h : Hid (decide ((a : Rat) * b' - b * a' = 0) = v)) : Hid (decide ((a' : Rat) * ((-b : Int) : Rat) - b' * ((-a : Int) : Rat) = 0) = v) := by
  show _ = _
  rw [Rat.intCast_neg, Rat.intCast_neg, show (a' : Rat) * -(b : Rat) - b' * -(a : Rat) = a * b' - b * a' by grind]
  exact h.out
def phiLZ (x y z : Int) (k : Nat) (u : Value) (W : World) : Prop := ∃ gx ax lx cx gy ay ly cy gz az lz cz, u = .agg #[.bool gx, .slice ax lx cx, .bool gy, .slice ay ly cy, .bool gz, .slice az lz cz] ∧ CZ W (.agg #[.bool gx, .slice ax lx cx]) x k ∧ CZ W (.agg #[.bool gy, .slice ay ly cy]) y k ∧ CZ W (.agg #[.bool gz, .slice az lz cz]) z k
instance {x y z : Int} {k : Nat} : Last (phiLZ x y z k) := ⟨fun _ _ _ hb ⟨gx, ax, lx, cx, gy, ay, ly, cy, gz, az, lz, cz, e, _, _, _⟩ => have := Kp1.mk hb; ⟨gx, ax, lx, cx, gy, ay, ly, cy, gz, az, lz, cz, e, inferInstance, inferInstance, inferInstance⟩⟩
theorem phiLZ.fin {W : World} {gx : Bool} {ax : Option Addr} {lx : Nat} {cx : Nat} {gy : Bool} {ay : Option Addr} {ly : Nat} {cy : Nat} {gz : Bool} {az : Option Addr} {lz : Nat} {cz : Nat} {x x' : Int} {kx : Nat} {y y' : Int} {ky : Nat} {z z' : Int} {kz : Nat} {k : Nat} [hx : CZ W (.agg #[.bool gx, .slice ax lx cx]) x kx] [hy : CZ W (.agg #[.bool gy, .slice ay ly cy]) y ky] [hz : CZ W (.agg #[.bool gz, .slice az lz cz]) z kz] (ex : x = x') (mx : kx ≤ k) (ey : y = y') (my : ky ≤ k) (ez : z = z') (mz : kz ≤ k) : phiLZ x' y' z' k (.agg #[.bool gx, .slice ax lx cx, .bool gy, .slice ay ly cy, .bool gz, .slice az lz cz]) W := ⟨gx, ax, lx, cx, gy, ay, ly, cy, gz, az, lz, cz, rfl, hx.cast ex mx, hy.cast ey my, hz.cast ez mz⟩
def phiPAB (x y : Rat) (v : Bool) (k : Nat) (u : Value) (W : World) : Prop := ∃ gx ax lx cx aax llx ccx gy ay ly cy aay lly ccy, u = .tuple #[.agg #[.bool gx, .slice ax lx cx, .slice aax llx ccx, .bool gy, .slice ay ly cy, .slice aay lly ccy], .bool v] ∧ CA W (.agg #[.bool gx, .slice ax lx cx, .slice aax llx ccx]) x k ∧ CA W (.agg #[.bool gy, .slice ay ly cy, .slice aay lly ccy]) y k
instance {x y : Rat} {v : Bool} {k : Nat} : Last (phiPAB x y v k) := ⟨fun _ _ _ hb ⟨gx, ax, lx, cx, aax, llx, ccx, gy, ay, ly, cy, aay, lly, ccy, e, _, _⟩ => have := Kp1.mk hb; ⟨gx, ax, lx, cx, aax, llx, ccx, gy, ay, ly, cy, aay, lly, ccy, e, inferInstance, inferInstance⟩⟩
theorem phiPAB.fin {W : World} {gx : Bool} {ax : Option Addr} {lx : Nat} {cx : Nat} {aax : Option Addr} {llx : Nat} {ccx : Nat} {gy : Bool} {ay : Option Addr} {ly : Nat} {cy : Nat} {aay : Option Addr} {lly : Nat} {ccy : Nat}  {v : Bool} {x x' : Rat} {kx : Nat} {y y' : Rat} {ky : Nat} {k : Nat} [hx : CA W (.agg #[.bool gx, .slice ax lx cx, .slice aax llx ccx]) x kx] [hy : CA W (.agg #[.bool gy, .slice ay ly cy, .slice aay lly ccy]) y ky] (ex : x = x') (mx : kx ≤ k) (ey : y = y') (my : ky ≤ k) : phiPAB x' y' v k (.tuple #[.agg #[.bool gx, .slice ax lx cx, .slice aax llx ccx, .bool gy, .slice ay ly cy, .slice aay lly ccy], .bool v]) W := ⟨gx, ax, lx, cx, aax, llx, ccx, gy, ay, ly, cy, aay, lly, ccy, rfl, hx.cast ex mx, hy.cast ey my⟩
def phiPA (x y : Rat) (k : Nat) (u : Value) (W : World) : Prop := ∃ gx ax lx cx aax llx ccx gy ay ly cy aay lly ccy, u = .agg #[.bool gx, .slice ax lx cx, .slice aax llx ccx, .bool gy, .slice ay ly cy, .slice aay lly ccy] ∧ CA W (.agg #[.bool gx, .slice ax lx cx, .slice aax llx ccx]) x k ∧ CA W (.agg #[.bool gy, .slice ay ly cy, .slice aay lly ccy]) y k
instance {x y : Rat} {k : Nat} : Last (phiPA x y k) := ⟨fun _ _ _ hb ⟨gx, ax, lx, cx, aax, llx, ccx, gy, ay, ly, cy, aay, lly, ccy, e, _, _⟩ => have := Kp1.mk hb; ⟨gx, ax, lx, cx, aax, llx, ccx, gy, ay, ly, cy, aay, lly, ccy, e, inferInstance, inferInstance⟩⟩
theorem phiPA.fin {W : World} {gx : Bool} {ax : Option Addr} {lx : Nat} {cx : Nat} {aax : Option Addr} {llx : Nat} {ccx : Nat} {gy : Bool} {ay : Option Addr} {ly : Nat} {cy : Nat} {aay : Option Addr} {lly : Nat} {ccy : Nat} {x x' : Rat} {kx : Nat} {y y' : Rat} {ky : Nat} {k : Nat} [hx : CA W (.agg #[.bool gx, .slice ax lx cx, .slice aax llx ccx]) x kx] [hy : CA W (.agg #[.bool gy, .slice ay ly cy, .slice aay lly ccy]) y ky] (ex : x = x') (mx : kx ≤ k) (ey : y = y') (my : ky ≤ k) : phiPA x' y' k (.agg #[.bool gx, .slice ax lx cx, .slice aax llx ccx, .bool gy, .slice ay ly cy, .slice aay lly ccy]) W := ⟨gx, ax, lx, cx, aax, llx, ccx, gy, ay, ly, cy, aay, lly, ccy, rfl, hx.cast ex mx, hy.cast ey my⟩
end Go.Proofs.YtfdgglddldlpjaaGreat

/- The walk of the law LineMeets: it returns true and changes nothing that was there. printed by a small program (mkln11.py). -/
namespace Go.Proofs.YtfdgglddldlpjaaGreat
open Go.RowKit
set_option maxRecDepth 100000
set_option maxHeartbeats 40000000
set_option synthInstance.maxSize 100000
set_option synthInstance.maxHeartbeats 1000000

set_option linter.unusedSimpArgs false
theorem lineMeets_walk (a0 : Option Addr) (len0 cap0 : Nat) (z0 : List Int) (w : World) (w0 : IsRow .i64 w a0 len0 cap0 z0) :
    Calls Tryz.prog 4 #[.slice a0 len0 cap0] w fun e w' => e = .returned (.bool true) ∧ Below w.heap.size w w' := by
  go_enter Tryz.func4, Tryz.ntmps4
  go_wp2_with fail
  with_reducible refine Calls.cNew (newW w0) ?_
  intro W1 _ _
  go_wp2_with fail
  with_reducible refine Calls.cTL tapeLC ?_
  intro W1 _ _ gx1 ax1 lx1 cx1 gy1 ay1 ly1 cy1 gz1 az1 lz1 cz1 la lb lc _ _ _ hv1
  go_wp2_with fail
  with_reducible refine Calls.cLZ (toLC (by omega)) ?_
  intros
  go_wp2_with fail
  with_reducible refine Calls.cTL tapeLC ?_
  intro W2 _ _ gx2 ax2 lx2 cx2 gy2 ay2 ly2 cy2 gz2 az2 lz2 cz2 ma mb mc _ _ _ hv2
  go_wp2_with fail
  with_reducible refine Calls.cLZ (toLC (by omega)) ?_
  intros
  have hr1 := Lib.hid hv1.out.rev
  obtain ⟨z, hz⟩ : ∃ z, decide (((la : Int) : Rat) * ((mb : Int) : Rat) - ((lb : Int) : Rat) * ((ma : Int) : Rat) = 0) = z := ⟨_, rfl⟩
  have HZ := Lib.hid hz
  have HZ2 := meet_d HZ
  cases z with
  | true =>
    clear hz
    go_wp2_with (first
      | (go_at_call 21; (with_reducible refine Calls.cE (lineMeetNo (by omega) hv1 hv2 HZ) ?_); intro W5 _))
    refine rgn [] [] fun hHeld => ?_
    refine tk 0 hHeld ?_
    refine tk 1 hHeld ?_
    refine wpAnyT_ready (rs := [2, 7]) (by kernel_rfl) (by simp) ?_
    refine AllT.cons (by simp; rfl) (fun K hK => ?_) (AllT.cons (by simp; rfl) (fun K hK => ?_) AllT.nil)
    go_simp
    (with_reducible refine Calls.cLZ (lineReverseC (by omega) hv1) ?_); intros
    refine hd hK ?_
    clear hHeld hK K
    intro hHeld
    refine wpAnyT_ready (rs := [3, 7]) (by kernel_rfl) (by simp) ?_
    refine AllT.cons (by simp; rfl) (fun K hK => ?_) (AllT.cons (by simp; rfl) (fun K hK => ?_) AllT.nil)
    go_simp
    (with_reducible refine Calls.cE (lineMeetNo (by omega) hv2 hr1 HZ2) ?_); intros
    refine hd hK ?_
    clear hHeld hK K
    intro hHeld
    refine tk 4 hHeld ?_
    refine tk 5 hHeld ?_
    refine tk 6 hHeld ?_
    refine st 7 fun K hK => ?_
    go_simp
    refine hd hK ?_
    clear hHeld hK K
    intro hHeld
    refine st 8 fun K hK => ?_
    go_simp
    refine hd hK ?_
    clear hHeld hK K
    intro hHeld
    refine tk 9 hHeld ?_
    refine dn ?_
    clear hHeld
    go_wp2_with (first | (go_at_call 8; (with_reducible refine Calls.cE (known05C) ?_); intros) | (go_at_call 23; (with_reducible refine Calls.cE (lineParallelC (by omega) hv1 hv2 HZ) ?_); intros))
    go_ret
    exact E.fin rfl
    go_simp
    refine hd hK ?_
    clear hHeld hK K
    intro hHeld
    refine st 3 fun K hK => ?_
    go_simp
    (with_reducible refine Calls.cE (lineMeetNo (by omega) hv2 hr1 HZ2) ?_); intros
    refine hd hK ?_
    clear hHeld hK K
    intro hHeld
    refine tk 4 hHeld ?_
    refine tk 5 hHeld ?_
    refine tk 6 hHeld ?_
    refine st 8 fun K hK => ?_
    go_simp
    refine hd hK ?_
    clear hHeld hK K
    intro hHeld
    refine tk 9 hHeld ?_
    refine dn ?_
    clear hHeld
    go_wp2_with (first | (go_at_call 8; (with_reducible refine Calls.cE (known05C) ?_); intros) | (go_at_call 23; (with_reducible refine Calls.cE (lineParallelC (by omega) hv1 hv2 HZ) ?_); intros))
    go_ret
    exact E.fin rfl
    go_simp
    refine hd hK ?_
    clear hHeld hK K
    intro hHeld
    refine st 2 fun K hK => ?_
    go_simp
    (with_reducible refine Calls.cLZ (lineReverseC (by omega) hv1) ?_); intros
    refine hd hK ?_
    clear hHeld hK K
    intro hHeld
    refine st 3 fun K hK => ?_
    go_simp
    (with_reducible refine Calls.cE (lineMeetNo (by omega) hv2 hr1 HZ2) ?_); intros
    refine hd hK ?_
    clear hHeld hK K
    intro hHeld
    refine tk 4 hHeld ?_
    refine tk 5 hHeld ?_
    refine tk 6 hHeld ?_
    refine st 8 fun K hK => ?_
    go_simp
    refine hd hK ?_
    clear hHeld hK K
    intro hHeld
    refine tk 9 hHeld ?_
    refine dn ?_
    clear hHeld
    go_wp2_with (first | (go_at_call 8; (with_reducible refine Calls.cE (known05C) ?_); intros) | (go_at_call 23; (with_reducible refine Calls.cE (lineParallelC (by omega) hv1 hv2 HZ) ?_); intros))
    go_ret
    exact E.fin rfl
  | false =>
    have hne := of_decide_eq_false hz
    have H1 : Hid (isgn (((la : Int) : Rat) * ((((lb : Int) : Rat) * ((mc : Int) : Rat) - ((lc : Int) : Rat) * ((mb : Int) : Rat)) / (((la : Int) : Rat) * ((mb : Int) : Rat) - ((lb : Int) : Rat) * ((ma : Int) : Rat))) + ((lb : Int) : Rat) * ((((lc : Int) : Rat) * ((ma : Int) : Rat) - ((la : Int) : Rat) * ((mc : Int) : Rat)) / (((la : Int) : Rat) * ((mb : Int) : Rat) - ((lb : Int) : Rat) * ((ma : Int) : Rat))) + ((lc : Int) : Rat)).num = 0) := by show _ = _; rw [meet_on hne]; rfl
    have H2 : Hid (isgn (((ma : Int) : Rat) * ((((lb : Int) : Rat) * ((mc : Int) : Rat) - ((lc : Int) : Rat) * ((mb : Int) : Rat)) / (((la : Int) : Rat) * ((mb : Int) : Rat) - ((lb : Int) : Rat) * ((ma : Int) : Rat))) + ((mb : Int) : Rat) * ((((lc : Int) : Rat) * ((ma : Int) : Rat) - ((la : Int) : Rat) * ((mc : Int) : Rat)) / (((la : Int) : Rat) * ((mb : Int) : Rat) - ((lb : Int) : Rat) * ((ma : Int) : Rat))) + ((mc : Int) : Rat)).num = 0) := by show _ = _; rw [meet_on' hne]; rfl
    clear hz hne
    go_wp2_with (first
      | (go_at_call 21; (with_reducible refine Calls.cPAB (lineMeetOk (by omega) hv1 hv2 HZ) ?_); intro W5 _ gu au lu cu aau llu ccu gv av lv cv aav llv ccv _ _))
    refine rgn [] [] fun hHeld => ?_
    refine tk 0 hHeld ?_
    refine tk 1 hHeld ?_
    refine wpAnyT_ready (rs := [2, 7]) (by kernel_rfl) (by simp) ?_
    refine AllT.cons (by simp; rfl) (fun K hK => ?_) (AllT.cons (by simp; rfl) (fun K hK => ?_) AllT.nil)
    go_simp
    (with_reducible refine Calls.cLZ (lineReverseC (by omega) hv1) ?_); intros
    refine hd hK ?_
    clear hHeld hK K
    intro hHeld
    refine wpAnyT_ready (rs := [3, 7]) (by kernel_rfl) (by simp) ?_
    refine AllT.cons (by simp; rfl) (fun K hK => ?_) (AllT.cons (by simp; rfl) (fun K hK => ?_) AllT.nil)
    go_simp
    (with_reducible refine Calls.cPAB (lineMeetOk (by omega) hv2 hr1 HZ2) ?_); intros
    refine hd hK ?_
    clear hHeld hK K
    intro hHeld
    refine tk 4 hHeld ?_
    refine tk 5 hHeld ?_
    refine tk 6 hHeld ?_
    refine st 7 fun K hK => ?_
    go_simp
    refine hd hK ?_
    clear hHeld hK K
    intro hHeld
    refine st 8 fun K hK => ?_
    go_simp
    refine hd hK ?_
    clear hHeld hK K
    intro hHeld
    refine tk 9 hHeld ?_
    refine dn ?_
    clear hHeld
    go_wp2_with (first | (go_at_call 8; (with_reducible refine Calls.cE (known05C) ?_); intros) | (go_at_call 23; (with_reducible refine Calls.cE (lineParallelC (by omega) hv1 hv2 HZ) ?_); intros) | (go_at_call 24; (with_reducible refine Calls.cE (lineSideV (by omega) hv1 H1) ?_); intros) | (go_at_call 24; (with_reducible refine Calls.cE (lineSideV (by omega) hv2 H2) ?_); intros) | (go_at_call 25; (with_reducible refine Calls.cE (samePC meet_x meet_y) ?_); intros))
    go_ret
    exact E.fin rfl
    go_simp
    refine hd hK ?_
    clear hHeld hK K
    intro hHeld
    refine st 3 fun K hK => ?_
    go_simp
    (with_reducible refine Calls.cPAB (lineMeetOk (by omega) hv2 hr1 HZ2) ?_); intros
    refine hd hK ?_
    clear hHeld hK K
    intro hHeld
    refine tk 4 hHeld ?_
    refine tk 5 hHeld ?_
    refine tk 6 hHeld ?_
    refine st 8 fun K hK => ?_
    go_simp
    refine hd hK ?_
    clear hHeld hK K
    intro hHeld
    refine tk 9 hHeld ?_
    refine dn ?_
    clear hHeld
    go_wp2_with (first | (go_at_call 8; (with_reducible refine Calls.cE (known05C) ?_); intros) | (go_at_call 23; (with_reducible refine Calls.cE (lineParallelC (by omega) hv1 hv2 HZ) ?_); intros) | (go_at_call 24; (with_reducible refine Calls.cE (lineSideV (by omega) hv1 H1) ?_); intros) | (go_at_call 24; (with_reducible refine Calls.cE (lineSideV (by omega) hv2 H2) ?_); intros) | (go_at_call 25; (with_reducible refine Calls.cE (samePC meet_x meet_y) ?_); intros))
    go_ret
    exact E.fin rfl
    go_simp
    refine hd hK ?_
    clear hHeld hK K
    intro hHeld
    refine st 2 fun K hK => ?_
    go_simp
    (with_reducible refine Calls.cLZ (lineReverseC (by omega) hv1) ?_); intros
    refine hd hK ?_
    clear hHeld hK K
    intro hHeld
    refine st 3 fun K hK => ?_
    go_simp
    (with_reducible refine Calls.cPAB (lineMeetOk (by omega) hv2 hr1 HZ2) ?_); intros
    refine hd hK ?_
    clear hHeld hK K
    intro hHeld
    refine tk 4 hHeld ?_
    refine tk 5 hHeld ?_
    refine tk 6 hHeld ?_
    refine st 8 fun K hK => ?_
    go_simp
    refine hd hK ?_
    clear hHeld hK K
    intro hHeld
    refine tk 9 hHeld ?_
    refine dn ?_
    clear hHeld
    go_wp2_with (first | (go_at_call 8; (with_reducible refine Calls.cE (known05C) ?_); intros) | (go_at_call 23; (with_reducible refine Calls.cE (lineParallelC (by omega) hv1 hv2 HZ) ?_); intros) | (go_at_call 24; (with_reducible refine Calls.cE (lineSideV (by omega) hv1 H1) ?_); intros) | (go_at_call 24; (with_reducible refine Calls.cE (lineSideV (by omega) hv2 H2) ?_); intros) | (go_at_call 25; (with_reducible refine Calls.cE (samePC meet_x meet_y) ?_); intros))
    go_ret
    exact E.fin rfl
end Go.Proofs.YtfdgglddldlpjaaGreat
