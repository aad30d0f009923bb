/-
  Texts of this claim, joined: Ln3.
-/
import Derived.Test.YtfdgglddldlpjaaGreatGP
/- Package line: lines of package api are read and written; the functions of one line. printed by a small program (mkln3.py). -/
namespace Go.Proofs.YtfdgglddldlpjaaGreat
open Go.RowKit
set_option maxRecDepth 100000
set_option maxHeartbeats 40000000
set_option synthInstance.maxSize 100000
set_option synthInstance.maxHeartbeats 1000000
set_option linter.unusedVariables false

theorem RL.ofZ {w : World} {g : Bool} {a : Option Addr} {l c : Nat} {z : Int} {k : Nat} (h : CZ w (.agg #[.bool g, .slice a l c]) z k) : RL w (.slice a l c) (nf z.natAbs) := ⟨(zz_of h).2.1⟩
theorem nrm_z {w : World} {g : Bool} {a : Option Addr} {l c : Nat} {z : Int} {k : Nat} (h : CZ w (.agg #[.bool g, .slice a l c]) z k) : nrmI g (nf z.natAbs) = true := by
  have hg := (zz_of h).1
  unfold nrmI
  rw [normalB_nfx, Bool.true_and]
  by_cases hz : z < 0
  · have : 0 < (nf z.natAbs).length := nf_len_pos (by omega)
    simp [this]
  · rw [hg, decide_eq_false hz]; rfl
theorem neg_int (a : Int) : (-((a : Int) : Rat)).num = -a := by rw [Rat.neg_num]; rfl
theorem intNormalC {w : World} {g : Bool} {a : Option Addr} {l c : Nat} {z : Int} {k : Nat} [h : CZ w (.agg #[.bool g, .slice a l c]) z k] :
    Calls Tryz.prog 134 #[.agg #[.bool g, .slice a l c]] w fun e w' => e = .returned (.bool true) ∧ Below w.heap.size w w' := by
  have i := RL.ofZ h
  exact intNormalL (L := nf z.natAbs) (Lib.hid (nrm_z h))
theorem rEqualV {w : World} {v : Bool} {n1 d1 n2 d2 : Int} {p1 p2 : Option Addr} {x y : Rat} {k1 k2 : Nat} [h1 : CF w (.agg #[.int .i64 n1, .int .i64 d1, .pointer p1]) x k1] [h2 : CF w (.agg #[.int .i64 n2, .int .i64 d2, .pointer p2]) y k2] (b : k1 ≤ 50000 ∧ k2 ≤ 50000) (hv : Hid (decide (x = y) = v)) :
    Calls Tryz.prog 135 #[.agg #[.int .i64 n1, .int .i64 d1, .pointer p1], .agg #[.int .i64 n2, .int .i64 d2, .pointer p2]] w (fun e w' => e = .returned (.bool v) ∧ Below w.heap.size w w') := by
  rw [← hv.out]; exact rEqualC (by omega)
theorem lnOfC {w : World} {g1x g1y g1z : Bool} {a1x a1y a1z : Option Addr} {l1x c1x l1y c1y l1z c1z k1x k1y k1z : Nat} {la lb lc : Int} [h1x : CZ w (.agg #[.bool g1x, .slice a1x l1x c1x]) la k1x] [h1y : CZ w (.agg #[.bool g1y, .slice a1y l1y c1y]) lb k1y] [h1z : CZ w (.agg #[.bool g1z, .slice a1z l1z c1z]) lc k1z] (b : k1x ≤ 10000 ∧ k1y ≤ 10000 ∧ k1z ≤ 10000) (hv : Hid (LnV la lb lc)) :
    Calls Tryz.prog 70 #[.agg #[.bool g1x, .slice a1x l1x c1x, .bool g1y, .slice a1y l1y c1y, .bool g1z, .slice a1z l1z c1z]] w (LFBRet w ((la : Int) : Rat) ((lb : Int) : Rat) ((lc : Int) : Rat) true (max k1x (max k1y k1z) + 3)) := by
  have HG : Hid (decide (rgcd (rgcd (la : Rat) (lb : Rat)) (lc : Rat) = ((1 : Int) : Rat)) = true) := by
    refine decide_eq_true ?_
    have h := lnG_int la lb lc
    rw [hv.out.2] at h
    exact h
  obtain ⟨u, hu⟩ : ∃ u, decide ((la : Rat) = 0) = u := ⟨_, rfl⟩
  have HX := Lib.hid hu
  have HY : Hid (u = true → decide ((lb : Rat) = 0) = false) := fun e => decide_eq_false (fun h => hv.out.1 ⟨by exact_mod_cast (of_decide_eq_true (hu.trans e)), by exact_mod_cast h⟩)
  clear hu
  go_enter Tryz.func70, Tryz.ntmps70
  go_upto_region 3 with (first | (go_at_call 134; (with_reducible refine Calls.cE (intNormalC) ?_); intros))
  go_cut [4] from 22 to 31 (fun t wx => ∃ (q : Nat) (n1 d1 : Int) (p1 : Option Addr) (n2 d2 : Int) (p2 : Option Addr) (n3 d3 : Int) (p3 : Option Addr), t = .pointer (some ⟨q, 0, none⟩) ∧ Bx wx q 94 [.int .i64 n1, .int .i64 d1, .pointer p1, .int .i64 n2, .int .i64 d2, .pointer p2, .int .i64 n3, .int .i64 d3, .pointer p3] ∧ CF wx (.agg #[.int .i64 n1, .int .i64 d1, .pointer p1]) ((la : Int) : Rat) (max k1x (max k1y k1z) + 3) ∧ CF wx (.agg #[.int .i64 n2, .int .i64 d2, .pointer p2]) ((lb : Int) : Rat) (max k1x (max k1y k1z) + 3) ∧ CF wx (.agg #[.int .i64 n3, .int .i64 d3, .pointer p3]) ((lc : Int) : Rat) (max k1x (max k1y k1z) + 3) ∧ Bx wx (w.heap.size + 1) 94 [.int .i64 0, .int .i64 0, .pointer none, .int .i64 0, .int .i64 0, .pointer none, .int .i64 0, .int .i64 0, .pointer none] ∧ Kp w wx)
  case first =>
    refine rgn [] [] fun hHeld => ?_
    refine tk 0 hHeld ?_
    refine tk 1 hHeld ?_
    refine tk 3 hHeld ?_
    refine tk 4 hHeld ?_
    refine tk 6 hHeld ?_
    refine tk 7 hHeld ?_
    refine wpAnyT_ready (rs := [2, 10]) (by kernel_rfl) (by simp) ?_
    refine AllT.cons (by simp; rfl) (fun K hK => ?_) (AllT.cons (by simp; rfl) (fun K hK => ?_) AllT.nil)
    go_simp
    (with_reducible refine Calls.cF (wholeC (by omega)) ?_); intros
    refine hd hK ?_
    clear hHeld hK K
    intro hHeld
    refine wpAnyT_ready (rs := [5, 10]) (by kernel_rfl) (by simp) ?_
    refine AllT.cons (by simp; rfl) (fun K hK => ?_) (AllT.cons (by simp; rfl) (fun K hK => ?_) AllT.nil)
    go_simp
    (with_reducible refine Calls.cF (wholeC (by omega)) ?_); intros
    refine hd hK ?_
    clear hHeld hK K
    intro hHeld
    refine wpAnyT_ready (rs := [8, 10]) (by kernel_rfl) (by simp) ?_
    refine AllT.cons (by simp; rfl) (fun K hK => ?_) (AllT.cons (by simp; rfl) (fun K hK => ?_) AllT.nil)
    go_simp
    (with_reducible refine Calls.cF (wholeC (by omega)) ?_); intros
    refine hd hK ?_
    clear hHeld hK K
    intro hHeld
    refine tk 9 hHeld ?_
    refine st 10 fun K hK => ?_
    go_simp
    refine hd hK ?_
    clear hHeld hK K
    intro hHeld
    refine st 11 fun K hK => ?_
    go_simp
    refine hd hK ?_
    clear hHeld hK K
    intro hHeld
    refine dn ?_
    clear hHeld
    go_wp2_with fail
    go_meet
    exact ⟨_, _, _, _, _, _, _, _, _, _, rfl, inferInstance, CF.cast inferInstance rfl (by omega), CF.cast inferInstance rfl (by omega), CF.cast inferInstance rfl (by omega), inferInstance, inferInstance⟩
    go_simp
    refine hd hK ?_
    clear hHeld hK K
    intro hHeld
    refine st 8 fun K hK => ?_
    go_simp
    (with_reducible refine Calls.cF (wholeC (by omega)) ?_); intros
    refine hd hK ?_
    clear hHeld hK K
    intro hHeld
    refine tk 9 hHeld ?_
    refine st 11 fun K hK => ?_
    go_simp
    refine hd hK ?_
    clear hHeld hK K
    intro hHeld
    refine dn ?_
    clear hHeld
    go_wp2_with fail
    go_meet
    exact ⟨_, _, _, _, _, _, _, _, _, _, rfl, inferInstance, CF.cast inferInstance rfl (by omega), CF.cast inferInstance rfl (by omega), CF.cast inferInstance rfl (by omega), inferInstance, inferInstance⟩
    go_simp
    refine hd hK ?_
    clear hHeld hK K
    intro hHeld
    refine st 5 fun K hK => ?_
    go_simp
    (with_reducible refine Calls.cF (wholeC (by omega)) ?_); intros
    refine hd hK ?_
    clear hHeld hK K
    intro hHeld
    refine st 8 fun K hK => ?_
    go_simp
    (with_reducible refine Calls.cF (wholeC (by omega)) ?_); intros
    refine hd hK ?_
    clear hHeld hK K
    intro hHeld
    refine tk 9 hHeld ?_
    refine st 11 fun K hK => ?_
    go_simp
    refine hd hK ?_
    clear hHeld hK K
    intro hHeld
    refine dn ?_
    clear hHeld
    go_wp2_with fail
    go_meet
    exact ⟨_, _, _, _, _, _, _, _, _, _, rfl, inferInstance, CF.cast inferInstance rfl (by omega), CF.cast inferInstance rfl (by omega), CF.cast inferInstance rfl (by omega), inferInstance, inferInstance⟩
    go_simp
    refine hd hK ?_
    clear hHeld hK K
    intro hHeld
    refine st 2 fun K hK => ?_
    go_simp
    (with_reducible refine Calls.cF (wholeC (by omega)) ?_); intros
    refine hd hK ?_
    clear hHeld hK K
    intro hHeld
    refine st 5 fun K hK => ?_
    go_simp
    (with_reducible refine Calls.cF (wholeC (by omega)) ?_); intros
    refine hd hK ?_
    clear hHeld hK K
    intro hHeld
    refine st 8 fun K hK => ?_
    go_simp
    (with_reducible refine Calls.cF (wholeC (by omega)) ?_); intros
    refine hd hK ?_
    clear hHeld hK K
    intro hHeld
    refine tk 9 hHeld ?_
    refine st 11 fun K hK => ?_
    go_simp
    refine hd hK ?_
    clear hHeld hK K
    intro hHeld
    refine dn ?_
    clear hHeld
    go_wp2_with fail
    go_meet
    exact ⟨_, _, _, _, _, _, _, _, _, _, rfl, inferInstance, CF.cast inferInstance rfl (by omega), CF.cast inferInstance rfl (by omega), CF.cast inferInstance rfl (by omega), inferInstance, inferInstance⟩
  case rest =>
    obtain ⟨q, n1, d1, p1, n2, d2, p2, n3, d3, p3, rfl, i1, i2, i3, i4, i5, i6⟩ := hcut
    cases u with
    | true =>
      have HY' := Lib.hid (HY.out rfl)
      clear HY
      go_wp2_with fail
      refine rgn [] [] fun hHeld => ?_
      refine tk 0 hHeld ?_
      refine tk 1 hHeld ?_
      refine st 2 fun K hK => ?_
      go_simp
      (with_reducible refine Calls.cE (rZeroV HX) ?_); intros
      refine hd hK ?_
      clear hHeld hK K
      intro hHeld
      refine tk 3 hHeld ?_
      refine tk 4 hHeld ?_
      refine tk 5 hHeld ?_
      refine st 6 fun K hK => ?_
      go_simp
      (with_reducible refine Calls.cE (rZeroV HY') ?_); intros
      refine hd hK ?_
      clear hHeld hK K
      intro hHeld
      refine tk 7 hHeld ?_
      refine tk 8 hHeld ?_
      refine tk 9 hHeld ?_
      refine tk 10 hHeld ?_
      refine tk 11 hHeld ?_
      refine tk 12 hHeld ?_
      refine tk 14 hHeld ?_
      refine tk 15 hHeld ?_
      refine st 13 fun K hK => ?_
      go_simp
      (with_reducible refine Calls.cF (fracGcdC (by omega)) ?_); intros
      refine hd hK ?_
      clear hHeld hK K
      intro hHeld
      refine st 16 fun K hK => ?_
      go_simp
      (with_reducible refine Calls.cF (fracGcdC (by omega)) ?_); intros
      refine hd hK ?_
      clear hHeld hK K
      intro hHeld
      refine st 17 fun K hK => ?_
      go_simp
      (with_reducible refine Calls.cF (fracIntC (by omega)) ?_); intros
      refine hd hK ?_
      clear hHeld hK K
      intro hHeld
      refine st 18 fun K hK => ?_
      go_simp
      (with_reducible refine Calls.cE (rEqualV (by omega) HG) ?_); intros
      refine hd hK ?_
      clear hHeld hK K
      intro hHeld
      refine tk 19 hHeld ?_
      refine tk 20 hHeld ?_
      refine dn ?_
      clear hHeld
      go_wp2_with fail
      refine ret_bt rfl Tryz.underlying94 rfl (by kernel_rfl) rfl rfl rfl ?_
      exact LFBRet.fin rfl (by omega) rfl (by omega) rfl (by omega)
    | false =>
      clear HY
      go_wp2_with fail
      refine rgn [] [] fun hHeld => ?_
      refine tk 0 hHeld ?_
      refine tk 1 hHeld ?_
      refine st 2 fun K hK => ?_
      go_simp
      (with_reducible refine Calls.cE (rZeroV HX) ?_); intros
      refine hd hK ?_
      clear hHeld hK K
      intro hHeld
      refine tk 3 hHeld ?_
      refine tkU 4 hHeld ?_
      refine tkU 5 hHeld ?_
      refine tkU 6 hHeld ?_
      refine tk 7 hHeld ?_
      refine tk 8 hHeld ?_
      refine tk 9 hHeld ?_
      refine tk 10 hHeld ?_
      refine tk 11 hHeld ?_
      refine tk 12 hHeld ?_
      refine tk 14 hHeld ?_
      refine tk 15 hHeld ?_
      refine st 13 fun K hK => ?_
      go_simp
      (with_reducible refine Calls.cF (fracGcdC (by omega)) ?_); intros
      refine hd hK ?_
      clear hHeld hK K
      intro hHeld
      refine st 16 fun K hK => ?_
      go_simp
      (with_reducible refine Calls.cF (fracGcdC (by omega)) ?_); intros
      refine hd hK ?_
      clear hHeld hK K
      intro hHeld
      refine st 17 fun K hK => ?_
      go_simp
      (with_reducible refine Calls.cF (fracIntC (by omega)) ?_); intros
      refine hd hK ?_
      clear hHeld hK K
      intro hHeld
      refine st 18 fun K hK => ?_
      go_simp
      (with_reducible refine Calls.cE (rEqualV (by omega) HG) ?_); intros
      refine hd hK ?_
      clear hHeld hK K
      intro hHeld
      refine tk 19 hHeld ?_
      refine tk 20 hHeld ?_
      refine dn ?_
      clear hHeld
      go_wp2_with fail
      refine ret_bt rfl Tryz.underlying94 rfl (by kernel_rfl) rfl rfl rfl ?_
      exact LFBRet.fin rfl (by omega) rfl (by omega) rfl (by omega)

theorem lnApiC {w : World} {n1x d1x n1y d1y n1z d1z : Int} {p1x p1y p1z : Option Addr} {la lb lc : Rat} {k1x k1y k1z : Nat} [h1x : CF w (.agg #[.int .i64 n1x, .int .i64 d1x, .pointer p1x]) la k1x] [h1y : CF w (.agg #[.int .i64 n1y, .int .i64 d1y, .pointer p1y]) lb k1y] [h1z : CF w (.agg #[.int .i64 n1z, .int .i64 d1z, .pointer p1z]) lc k1z] (b : k1x ≤ 300000 ∧ k1y ≤ 300000 ∧ k1z ≤ 300000) :
    Calls Tryz.prog 76 #[.agg #[.int .i64 n1x, .int .i64 d1x, .pointer p1x, .int .i64 n1y, .int .i64 d1y, .pointer p1y, .int .i64 n1z, .int .i64 d1z, .pointer p1z]] w (CLZRet w (la.num) (lb.num) (lc.num) (max k1x (max k1y k1z))) := by
  go_enter Tryz.func76, Tryz.ntmps76
  go_wp2_with fail
  refine rgn [w.heap.size + 1] [] fun hHeld => ?_
  refine tk 0 hHeld ?_
  refine tk 1 hHeld ?_
  refine tk 3 hHeld ?_
  refine tk 4 hHeld ?_
  refine tk 6 hHeld ?_
  refine tk 7 hHeld ?_
  refine st 2 fun K hK => ?_
  go_simp
  (with_reducible refine Calls.cZ (rNumC (by omega)) ?_); intros
  refine hd hK ?_
  clear hHeld hK K
  intro hHeld
  refine st 5 fun K hK => ?_
  go_simp
  (with_reducible refine Calls.cZ (rNumC (by omega)) ?_); intros
  refine hd hK ?_
  clear hHeld hK K
  intro hHeld
  refine st 8 fun K hK => ?_
  go_simp
  (with_reducible refine Calls.cZ (rNumC (by omega)) ?_); intros
  refine hd hK ?_
  clear hHeld hK K
  intro hHeld
  refine tk 9 hHeld ?_
  refine st 10 fun K hK => ?_
  go_simp
  refine hd hK ?_
  clear hHeld hK K
  intro hHeld
  refine dn ?_
  clear hHeld
  go_wp2
  refine ret_bx rfl Tryz.underlying30 rfl (by kernel_rfl) rfl rfl rfl ?_
  exact CLZRet.fin rfl (by omega) rfl (by omega) rfl (by omega)

theorem clValueC {w : World} {n1x d1x n1y d1y n1z d1z : Int} {p1x p1y p1z a2x aa2x a2y aa2y : Option Addr} {la lb lc x y : Rat} {g2x g2y : Bool} {l2x c2x ll2x cc2x l2y c2y ll2y cc2y k1x k1y k1z k2x k2y : Nat} [h1x : CF w (.agg #[.int .i64 n1x, .int .i64 d1x, .pointer p1x]) la k1x] [h1y : CF w (.agg #[.int .i64 n1y, .int .i64 d1y, .pointer p1y]) lb k1y] [h1z : CF w (.agg #[.int .i64 n1z, .int .i64 d1z, .pointer p1z]) lc k1z] [h2x : CW w (.agg #[.bool g2x, .slice a2x l2x c2x, .slice aa2x ll2x cc2x]) x k2x] [h2y : CW w (.agg #[.bool g2y, .slice a2y l2y c2y, .slice aa2y ll2y cc2y]) y k2y] {q : Nat} [hq : Bx w q 54 [.bool g2x, .slice a2x l2x c2x, .slice aa2x ll2x cc2x, .bool g2y, .slice a2y l2y c2y, .slice aa2y ll2y cc2y]] (b : k1x ≤ 6200 ∧ k1y ≤ 6200 ∧ k1z ≤ 6200 ∧ k2x ≤ 25000 ∧ k2y ≤ 25000) :
    Calls Tryz.prog 94 #[.agg #[.int .i64 n1x, .int .i64 d1x, .pointer p1x, .int .i64 n1y, .int .i64 d1y, .pointer p1y, .int .i64 n1z, .int .i64 d1z, .pointer p1z], .pointer (some ⟨q, 0, none⟩)] w (CARet w (la * x + lb * y + lc) (8 * (k1x + k1y + k1z + k2x + k2y) + 100)) := by
  go_enter Tryz.func94, Tryz.ntmps94
  go_wp2_with fail
  refine rgn [w.heap.size + 1] [] fun hHeld => ?_
  refine tk 0 hHeld ?_
  refine tk 1 hHeld ?_
  refine st 2 fun K hK => ?_
  go_simp
  (with_reducible refine Calls.cPF (ptOfC (by omega)) ?_); intros
  refine hd hK ?_
  clear hHeld hK K
  intro hHeld
  refine st 3 fun K hK => ?_
  go_simp
  (with_reducible refine Calls.cF (lnValueC (by omega)) ?_); intros
  refine hd hK ?_
  clear hHeld hK K
  intro hHeld
  refine st 4 fun K hK => ?_
  go_simp
  (with_reducible refine Calls.cA (rApiC (by omega)) ?_); intros
  refine hd hK ?_
  clear hHeld hK K
  intro hHeld
  refine st 5 fun K hK => ?_
  go_simp
  refine hd hK ?_
  clear hHeld hK K
  intro hHeld
  refine dn ?_
  clear hHeld
  go_wp2
  refine ret_bx rfl Tryz.underlying52 rfl (by kernel_rfl) rfl rfl rfl ?_
  exact CARet.fin rfl (by omega)

theorem ofValueC {w : World} {g1x g1y g1z g2x g2y : Bool} {a1x a1y a1z a2x aa2x a2y aa2y : Option Addr} {l1x c1x l1y c1y l1z c1z l2x c2x ll2x cc2x l2y c2y ll2y cc2y k1x k1y k1z k2x k2y : Nat} {la lb lc : Int} {x y : Rat} [h1x : CZ w (.agg #[.bool g1x, .slice a1x l1x c1x]) la k1x] [h1y : CZ w (.agg #[.bool g1y, .slice a1y l1y c1y]) lb k1y] [h1z : CZ w (.agg #[.bool g1z, .slice a1z l1z c1z]) lc k1z] [h2x : CW w (.agg #[.bool g2x, .slice a2x l2x c2x, .slice aa2x ll2x cc2x]) x k2x] [h2y : CW w (.agg #[.bool g2y, .slice a2y l2y c2y, .slice aa2y ll2y cc2y]) y k2y] {q : Nat} [hq : Bx w q 54 [.bool g2x, .slice a2x l2x c2x, .slice aa2x ll2x cc2x, .bool g2y, .slice a2y l2y c2y, .slice aa2y ll2y cc2y]] (b : k1x ≤ 6000 ∧ k1y ≤ 6000 ∧ k1z ≤ 6000 ∧ k2x ≤ 25000 ∧ k2y ≤ 25000) (hv : Hid (LnV la lb lc)) :
    Calls Tryz.prog 93 #[.agg #[.bool g1x, .slice a1x l1x c1x, .bool g1y, .slice a1y l1y c1y, .bool g1z, .slice a1z l1z c1z], .func (.func 94) #[] #[.pointer (some ⟨q, 0, none⟩)]] w (CARet w (((la : Int) : Rat) * x + ((lb : Int) : Rat) * y + ((lc : Int) : Rat)) (24 * (k1x + k1y + k1z + k2x + k2y) + 200)) := by
  go_enter Tryz.func93, Tryz.ntmps93
  go_wp2_with (first
    | (go_at_call 70; (with_reducible refine Calls.cLFB (lnOfC (by omega) hv) ?_); intros)
    | (go_at_call 94; (with_reducible refine Calls.cA (clValueC (by omega)) ?_); intros))
  refine ret_bx rfl Tryz.underlying52 rfl (by kernel_rfl) rfl rfl rfl ?_
  exact CARet.fin rfl (by omega)

theorem lineValueC {w : World} {g1x g1y g1z g2x g2y : Bool} {a1x a1y a1z a2x aa2x a2y aa2y : Option Addr} {l1x c1x l1y c1y l1z c1z l2x c2x ll2x cc2x l2y c2y ll2y cc2y k1x k1y k1z k2x k2y : Nat} {la lb lc : Int} {x y : Rat} [h1x : CZ w (.agg #[.bool g1x, .slice a1x l1x c1x]) la k1x] [h1y : CZ w (.agg #[.bool g1y, .slice a1y l1y c1y]) lb k1y] [h1z : CZ w (.agg #[.bool g1z, .slice a1z l1z c1z]) lc k1z] [h2x : CW w (.agg #[.bool g2x, .slice a2x l2x c2x, .slice aa2x ll2x cc2x]) x k2x] [h2y : CW w (.agg #[.bool g2y, .slice a2y l2y c2y, .slice aa2y ll2y cc2y]) y k2y] (b : k1x ≤ 6000 ∧ k1y ≤ 6000 ∧ k1z ≤ 6000 ∧ k2x ≤ 25000 ∧ k2y ≤ 25000) (hv : Hid (LnV la lb lc)) :
    Calls Tryz.prog 31 #[.agg #[.bool g1x, .slice a1x l1x c1x, .bool g1y, .slice a1y l1y c1y, .bool g1z, .slice a1z l1z c1z], .agg #[.bool g2x, .slice a2x l2x c2x, .slice aa2x ll2x cc2x, .bool g2y, .slice a2y l2y c2y, .slice aa2y ll2y cc2y]] w (CARet w (((la : Int) : Rat) * x + ((lb : Int) : Rat) * y + ((lc : Int) : Rat)) (24 * (k1x + k1y + k1z + k2x + k2y) + 200)) := by
  have hmf : ∀ (fn : Fn) (first cap : Array Value) (W : World), (Instr.makeFunc fn first cap).run Tryz.prog W = .ok (.func fn first cap) W := fun _ _ _ _ => rfl
  go_enter Tryz.func31, Tryz.ntmps31
  go_wp2_with (go_at_call 93; (with_reducible refine Calls.cA (ofValueC (by omega) hv) ?_); intros)
  refine ret_bx rfl Tryz.underlying52 rfl (by kernel_rfl) rfl rfl rfl ?_
  exact CARet.fin rfl (by omega)

theorem clSideC {w : World} {n1x d1x n1y d1y n1z d1z : Int} {p1x p1y p1z a2x aa2x a2y aa2y : Option Addr} {la lb lc x y : Rat} {g2x g2y : Bool} {l2x c2x ll2x cc2x l2y c2y ll2y cc2y k1x k1y k1z k2x k2y : Nat} [h1x : CF w (.agg #[.int .i64 n1x, .int .i64 d1x, .pointer p1x]) la k1x] [h1y : CF w (.agg #[.int .i64 n1y, .int .i64 d1y, .pointer p1y]) lb k1y] [h1z : CF w (.agg #[.int .i64 n1z, .int .i64 d1z, .pointer p1z]) lc k1z] [h2x : CW w (.agg #[.bool g2x, .slice a2x l2x c2x, .slice aa2x ll2x cc2x]) x k2x] [h2y : CW w (.agg #[.bool g2y, .slice a2y l2y c2y, .slice aa2y ll2y cc2y]) y k2y] {q : Nat} [hq : Bx w q 54 [.bool g2x, .slice a2x l2x c2x, .slice aa2x ll2x cc2x, .bool g2y, .slice a2y l2y c2y, .slice aa2y ll2y cc2y]] (b : k1x ≤ 6200 ∧ k1y ≤ 6200 ∧ k1z ≤ 6200 ∧ k2x ≤ 25000 ∧ k2y ≤ 25000) :
    Calls Tryz.prog 83 #[.agg #[.int .i64 n1x, .int .i64 d1x, .pointer p1x, .int .i64 n1y, .int .i64 d1y, .pointer p1y, .int .i64 n1z, .int .i64 d1z, .pointer p1z], .pointer (some ⟨q, 0, none⟩)] w (fun e w' => e = .returned (.int .i64 (isgn (la * x + lb * y + lc).num)) ∧ Below w.heap.size w w') := by
  go_enter Tryz.func83, Tryz.ntmps83
  go_wp2_with fail
  refine rgn [] [] fun hHeld => ?_
  refine tk 0 hHeld ?_
  refine tk 1 hHeld ?_
  refine st 2 fun K hK => ?_
  go_simp
  (with_reducible refine Calls.cPF (ptOfC (by omega)) ?_); intros
  refine hd hK ?_
  clear hHeld hK K
  intro hHeld
  refine st 3 fun K hK => ?_
  go_simp
  (with_reducible refine Calls.cE (lnSideC (by omega)) ?_); intros
  refine hd hK ?_
  clear hHeld hK K
  intro hHeld
  refine tk 4 hHeld ?_
  refine dn ?_
  clear hHeld
  go_wp2
  go_ret
  exact E.fin rfl

theorem ofSideC {w : World} {g1x g1y g1z g2x g2y : Bool} {a1x a1y a1z a2x aa2x a2y aa2y : Option Addr} {l1x c1x l1y c1y l1z c1z l2x c2x ll2x cc2x l2y c2y ll2y cc2y k1x k1y k1z k2x k2y : Nat} {la lb lc : Int} {x y : Rat} [h1x : CZ w (.agg #[.bool g1x, .slice a1x l1x c1x]) la k1x] [h1y : CZ w (.agg #[.bool g1y, .slice a1y l1y c1y]) lb k1y] [h1z : CZ w (.agg #[.bool g1z, .slice a1z l1z c1z]) lc k1z] [h2x : CW w (.agg #[.bool g2x, .slice a2x l2x c2x, .slice aa2x ll2x cc2x]) x k2x] [h2y : CW w (.agg #[.bool g2y, .slice a2y l2y c2y, .slice aa2y ll2y cc2y]) y k2y] {q : Nat} [hq : Bx w q 54 [.bool g2x, .slice a2x l2x c2x, .slice aa2x ll2x cc2x, .bool g2y, .slice a2y l2y c2y, .slice aa2y ll2y cc2y]] (b : k1x ≤ 6000 ∧ k1y ≤ 6000 ∧ k1z ≤ 6000 ∧ k2x ≤ 25000 ∧ k2y ≤ 25000) (hv : Hid (LnV la lb lc)) :
    Calls Tryz.prog 82 #[.agg #[.bool g1x, .slice a1x l1x c1x, .bool g1y, .slice a1y l1y c1y, .bool g1z, .slice a1z l1z c1z], .func (.func 83) #[] #[.pointer (some ⟨q, 0, none⟩)]] w (fun e w' => e = .returned (.int .i64 (isgn (((la : Int) : Rat) * x + ((lb : Int) : Rat) * y + ((lc : Int) : Rat)).num)) ∧ Below w.heap.size w w') := by
  go_enter Tryz.func82, Tryz.ntmps82
  go_wp2_with (first
    | (go_at_call 70; (with_reducible refine Calls.cLFB (lnOfC (by omega) hv) ?_); intros)
    | (go_at_call 83; (with_reducible refine Calls.cE (clSideC (by omega)) ?_); intros))
  go_ret
  exact E.fin rfl

theorem lineSideC {w : World} {g1x g1y g1z g2x g2y : Bool} {a1x a1y a1z a2x aa2x a2y aa2y : Option Addr} {l1x c1x l1y c1y l1z c1z l2x c2x ll2x cc2x l2y c2y ll2y cc2y k1x k1y k1z k2x k2y : Nat} {la lb lc : Int} {x y : Rat} [h1x : CZ w (.agg #[.bool g1x, .slice a1x l1x c1x]) la k1x] [h1y : CZ w (.agg #[.bool g1y, .slice a1y l1y c1y]) lb k1y] [h1z : CZ w (.agg #[.bool g1z, .slice a1z l1z c1z]) lc k1z] [h2x : CW w (.agg #[.bool g2x, .slice a2x l2x c2x, .slice aa2x ll2x cc2x]) x k2x] [h2y : CW w (.agg #[.bool g2y, .slice a2y l2y c2y, .slice aa2y ll2y cc2y]) y k2y] (b : k1x ≤ 6000 ∧ k1y ≤ 6000 ∧ k1z ≤ 6000 ∧ k2x ≤ 25000 ∧ k2y ≤ 25000) (hv : Hid (LnV la lb lc)) :
    Calls Tryz.prog 24 #[.agg #[.bool g1x, .slice a1x l1x c1x, .bool g1y, .slice a1y l1y c1y, .bool g1z, .slice a1z l1z c1z], .agg #[.bool g2x, .slice a2x l2x c2x, .slice aa2x ll2x cc2x, .bool g2y, .slice a2y l2y c2y, .slice aa2y ll2y cc2y]] w (fun e w' => e = .returned (.int .i64 (isgn (((la : Int) : Rat) * x + ((lb : Int) : Rat) * y + ((lc : Int) : Rat)).num)) ∧ Below w.heap.size w w') := by
  have hmf : ∀ (fn : Fn) (first cap : Array Value) (W : World), (Instr.makeFunc fn first cap).run Tryz.prog W = .ok (.func fn first cap) W := fun _ _ _ _ => rfl
  go_enter Tryz.func24, Tryz.ntmps24
  go_wp2_with (go_at_call 82; (with_reducible refine Calls.cE (ofSideC (by omega) hv) ?_); intros)
  go_ret
  exact E.fin rfl

theorem clDirectionC {w : World} {n1x d1x n1y d1y n1z d1z : Int} {p1x p1y p1z : Option Addr} {la lb lc : Rat} {k1x k1y k1z : Nat} [h1x : CF w (.agg #[.int .i64 n1x, .int .i64 d1x, .pointer p1x]) la k1x] [h1y : CF w (.agg #[.int .i64 n1y, .int .i64 d1y, .pointer p1y]) lb k1y] [h1z : CF w (.agg #[.int .i64 n1z, .int .i64 d1z, .pointer p1z]) lc k1z] (b : k1x ≤ 6200 ∧ k1y ≤ 6200 ∧ k1z ≤ 6200) :
    Calls Tryz.prog 100 #[.agg #[.int .i64 n1x, .int .i64 d1x, .pointer p1x, .int .i64 n1y, .int .i64 d1y, .pointer p1y, .int .i64 n1z, .int .i64 d1z, .pointer p1z]] w (CPARet w (lb) (-la) (8 * (k1x + k1y + k1z) + 100)) := by
  go_enter Tryz.func100, Tryz.ntmps100
  go_wp2_with (first
    | (go_at_call 101; (with_reducible refine Calls.cPF (lnDirC (by omega)) ?_); intros)
    | (go_at_call 72; (with_reducible refine Calls.cPA (ptApiC (by omega)) ?_); intros))
  refine ret_bx rfl Tryz.underlying54 rfl (by kernel_rfl) rfl rfl rfl ?_
  exact CPARet.fin rfl (by omega) rfl (by omega)

theorem ofDirectionC {w : World} {g1x g1y g1z : Bool} {a1x a1y a1z : Option Addr} {l1x c1x l1y c1y l1z c1z k1x k1y k1z : Nat} {la lb lc : Int} [h1x : CZ w (.agg #[.bool g1x, .slice a1x l1x c1x]) la k1x] [h1y : CZ w (.agg #[.bool g1y, .slice a1y l1y c1y]) lb k1y] [h1z : CZ w (.agg #[.bool g1z, .slice a1z l1z c1z]) lc k1z] (b : k1x ≤ 6000 ∧ k1y ≤ 6000 ∧ k1z ≤ 6000) (hv : Hid (LnV la lb lc)) :
    Calls Tryz.prog 87 #[.agg #[.bool g1x, .slice a1x l1x c1x, .bool g1y, .slice a1y l1y c1y, .bool g1z, .slice a1z l1z c1z], .func (.func 100) #[] #[]] w (CPARet w (((lb : Int) : Rat)) (-((la : Int) : Rat)) (24 * (k1x + k1y + k1z) + 200)) := by
  go_enter Tryz.func87, Tryz.ntmps87
  go_wp2_with (first
    | (go_at_call 70; (with_reducible refine Calls.cLFB (lnOfC (by omega) hv) ?_); intros)
    | (go_at_call 100; (with_reducible refine Calls.cPA (clDirectionC (by omega)) ?_); intros))
  refine ret_bx rfl Tryz.underlying54 rfl (by kernel_rfl) rfl rfl rfl ?_
  exact CPARet.fin rfl (by omega) rfl (by omega)

theorem lineDirectionC {w : World} {g1x g1y g1z : Bool} {a1x a1y a1z : Option Addr} {l1x c1x l1y c1y l1z c1z k1x k1y k1z : Nat} {la lb lc : Int} [h1x : CZ w (.agg #[.bool g1x, .slice a1x l1x c1x]) la k1x] [h1y : CZ w (.agg #[.bool g1y, .slice a1y l1y c1y]) lb k1y] [h1z : CZ w (.agg #[.bool g1z, .slice a1z l1z c1z]) lc k1z] (b : k1x ≤ 6000 ∧ k1y ≤ 6000 ∧ k1z ≤ 6000) (hv : Hid (LnV la lb lc)) :
    Calls Tryz.prog 34 #[.agg #[.bool g1x, .slice a1x l1x c1x, .bool g1y, .slice a1y l1y c1y, .bool g1z, .slice a1z l1z c1z]] w (CPARet w (((lb : Int) : Rat)) (-((la : Int) : Rat)) (24 * (k1x + k1y + k1z) + 200)) := by
  have hmf : ∀ (fn : Fn) (first cap : Array Value) (W : World), (Instr.makeFunc fn first cap).run Tryz.prog W = .ok (.func fn first cap) W := fun _ _ _ _ => rfl
  go_enter Tryz.func34, Tryz.ntmps34
  go_wp2_with (go_at_call 87; (with_reducible refine Calls.cPA (ofDirectionC (by omega) hv) ?_); intros)
  refine ret_bx rfl Tryz.underlying54 rfl (by kernel_rfl) rfl rfl rfl ?_
  exact CPARet.fin rfl (by omega) rfl (by omega)

theorem clAtC {w : World} {n1x d1x n1y d1y n1z d1z : Int} {p1x p1y p1z a2 aa2 : Option Addr} {la lb lc t : Rat} {g2 : Bool} {l2 c2 ll2 cc2 k1x k1y k1z k2 : Nat} [h1x : CF w (.agg #[.int .i64 n1x, .int .i64 d1x, .pointer p1x]) la k1x] [h1y : CF w (.agg #[.int .i64 n1y, .int .i64 d1y, .pointer p1y]) lb k1y] [h1z : CF w (.agg #[.int .i64 n1z, .int .i64 d1z, .pointer p1z]) lc k1z] [h2 : CW w (.agg #[.bool g2, .slice a2 l2 c2, .slice aa2 ll2 cc2]) t k2] {q : Nat} [hq : Bx w q 52 [.bool g2, .slice a2 l2 c2, .slice aa2 ll2 cc2]] (b : k1x ≤ 6200 ∧ k1y ≤ 6200 ∧ k1z ≤ 6200 ∧ k2 ≤ 6200) :
    Calls Tryz.prog 88 #[.agg #[.int .i64 n1x, .int .i64 d1x, .pointer p1x, .int .i64 n1y, .int .i64 d1y, .pointer p1y, .int .i64 n1z, .int .i64 d1z, .pointer p1z], .pointer (some ⟨q, 0, none⟩)] w (CPARet w (la * (-lc / (la * la + lb * lb)) + lb * t) (lb * (-lc / (la * la + lb * lb)) + -la * t) (8 * (k1x + k1y + k1z + k2) + 100)) := by
  go_enter Tryz.func88, Tryz.ntmps88
  go_wp2_with fail
  refine rgn [w.heap.size + 1] [] fun hHeld => ?_
  refine tk 0 hHeld ?_
  refine tk 1 hHeld ?_
  refine st 2 fun K hK => ?_
  go_simp
  (with_reducible refine Calls.cF (ofC (by omega)) ?_); intros
  refine hd hK ?_
  clear hHeld hK K
  intro hHeld
  refine st 3 fun K hK => ?_
  go_simp
  (with_reducible refine Calls.cPF (lnAtC (by omega)) ?_); intros
  refine hd hK ?_
  clear hHeld hK K
  intro hHeld
  refine st 4 fun K hK => ?_
  go_simp
  (with_reducible refine Calls.cPA (ptApiC (by omega)) ?_); intros
  refine hd hK ?_
  clear hHeld hK K
  intro hHeld
  refine st 5 fun K hK => ?_
  go_simp
  refine hd hK ?_
  clear hHeld hK K
  intro hHeld
  refine dn ?_
  clear hHeld
  go_wp2
  refine ret_bx rfl Tryz.underlying54 rfl (by kernel_rfl) rfl rfl rfl ?_
  exact CPARet.fin rfl (by omega) rfl (by omega)

theorem ofAtC {w : World} {g1x g1y g1z g2 : Bool} {a1x a1y a1z a2 aa2 : Option Addr} {l1x c1x l1y c1y l1z c1z l2 c2 ll2 cc2 k1x k1y k1z k2 : Nat} {la lb lc : Int} {t : Rat} [h1x : CZ w (.agg #[.bool g1x, .slice a1x l1x c1x]) la k1x] [h1y : CZ w (.agg #[.bool g1y, .slice a1y l1y c1y]) lb k1y] [h1z : CZ w (.agg #[.bool g1z, .slice a1z l1z c1z]) lc k1z] [h2 : CW w (.agg #[.bool g2, .slice a2 l2 c2, .slice aa2 ll2 cc2]) t k2] {q : Nat} [hq : Bx w q 52 [.bool g2, .slice a2 l2 c2, .slice aa2 ll2 cc2]] (b : k1x ≤ 6000 ∧ k1y ≤ 6000 ∧ k1z ≤ 6000 ∧ k2 ≤ 6000) (hv : Hid (LnV la lb lc)) :
    Calls Tryz.prog 87 #[.agg #[.bool g1x, .slice a1x l1x c1x, .bool g1y, .slice a1y l1y c1y, .bool g1z, .slice a1z l1z c1z], .func (.func 88) #[] #[.pointer (some ⟨q, 0, none⟩)]] w (CPARet w (((la : Int) : Rat) * (-((lc : Int) : Rat) / (((la : Int) : Rat) * ((la : Int) : Rat) + ((lb : Int) : Rat) * ((lb : Int) : Rat))) + ((lb : Int) : Rat) * t) (((lb : Int) : Rat) * (-((lc : Int) : Rat) / (((la : Int) : Rat) * ((la : Int) : Rat) + ((lb : Int) : Rat) * ((lb : Int) : Rat))) + -((la : Int) : Rat) * t) (24 * (k1x + k1y + k1z + k2) + 200)) := by
  go_enter Tryz.func87, Tryz.ntmps87
  go_wp2_with (first
    | (go_at_call 70; (with_reducible refine Calls.cLFB (lnOfC (by omega) hv) ?_); intros)
    | (go_at_call 88; (with_reducible refine Calls.cPA (clAtC (by omega)) ?_); intros))
  refine ret_bx rfl Tryz.underlying54 rfl (by kernel_rfl) rfl rfl rfl ?_
  exact CPARet.fin rfl (by omega) rfl (by omega)

theorem lineAtC {w : World} {g1x g1y g1z g2 : Bool} {a1x a1y a1z a2 aa2 : Option Addr} {l1x c1x l1y c1y l1z c1z l2 c2 ll2 cc2 k1x k1y k1z k2 : Nat} {la lb lc : Int} {t : Rat} [h1x : CZ w (.agg #[.bool g1x, .slice a1x l1x c1x]) la k1x] [h1y : CZ w (.agg #[.bool g1y, .slice a1y l1y c1y]) lb k1y] [h1z : CZ w (.agg #[.bool g1z, .slice a1z l1z c1z]) lc k1z] [h2 : CW w (.agg #[.bool g2, .slice a2 l2 c2, .slice aa2 ll2 cc2]) t k2] (b : k1x ≤ 6000 ∧ k1y ≤ 6000 ∧ k1z ≤ 6000 ∧ k2 ≤ 6000) (hv : Hid (LnV la lb lc)) :
    Calls Tryz.prog 28 #[.agg #[.bool g1x, .slice a1x l1x c1x, .bool g1y, .slice a1y l1y c1y, .bool g1z, .slice a1z l1z c1z], .agg #[.bool g2, .slice a2 l2 c2, .slice aa2 ll2 cc2]] w (CPARet w (((la : Int) : Rat) * (-((lc : Int) : Rat) / (((la : Int) : Rat) * ((la : Int) : Rat) + ((lb : Int) : Rat) * ((lb : Int) : Rat))) + ((lb : Int) : Rat) * t) (((lb : Int) : Rat) * (-((lc : Int) : Rat) / (((la : Int) : Rat) * ((la : Int) : Rat) + ((lb : Int) : Rat) * ((lb : Int) : Rat))) + -((la : Int) : Rat) * t) (24 * (k1x + k1y + k1z + k2) + 200)) := by
  have hmf : ∀ (fn : Fn) (first cap : Array Value) (W : World), (Instr.makeFunc fn first cap).run Tryz.prog W = .ok (.func fn first cap) W := fun _ _ _ _ => rfl
  go_enter Tryz.func28, Tryz.ntmps28
  go_wp2_with (go_at_call 87; (with_reducible refine Calls.cPA (ofAtC (by omega) hv) ?_); intros)
  refine ret_bx rfl Tryz.underlying54 rfl (by kernel_rfl) rfl rfl rfl ?_
  exact CPARet.fin rfl (by omega) rfl (by omega)

theorem clParamC {w : World} {n1x d1x n1y d1y n1z d1z : Int} {p1x p1y p1z a2x aa2x a2y aa2y : Option Addr} {la lb lc x y : Rat} {g2x g2y : Bool} {l2x c2x ll2x cc2x l2y c2y ll2y cc2y k1x k1y k1z k2x k2y : Nat} [h1x : CF w (.agg #[.int .i64 n1x, .int .i64 d1x, .pointer p1x]) la k1x] [h1y : CF w (.agg #[.int .i64 n1y, .int .i64 d1y, .pointer p1y]) lb k1y] [h1z : CF w (.agg #[.int .i64 n1z, .int .i64 d1z, .pointer p1z]) lc k1z] [h2x : CW w (.agg #[.bool g2x, .slice a2x l2x c2x, .slice aa2x ll2x cc2x]) x k2x] [h2y : CW w (.agg #[.bool g2y, .slice a2y l2y c2y, .slice aa2y ll2y cc2y]) y k2y] {q : Nat} [hq : Bx w q 54 [.bool g2x, .slice a2x l2x c2x, .slice aa2x ll2x cc2x, .bool g2y, .slice a2y l2y c2y, .slice aa2y ll2y cc2y]] (b : k1x ≤ 6200 ∧ k1y ≤ 6200 ∧ k1z ≤ 6200 ∧ k2x ≤ 6200 ∧ k2y ≤ 6200) :
    Calls Tryz.prog 98 #[.agg #[.int .i64 n1x, .int .i64 d1x, .pointer p1x, .int .i64 n1y, .int .i64 d1y, .pointer p1y, .int .i64 n1z, .int .i64 d1z, .pointer p1z], .pointer (some ⟨q, 0, none⟩)] w (CARet w ((lb * x + -la * y) / (lb * lb + -la * -la)) (8 * (k1x + k1y + k1z + k2x + k2y) + 100)) := by
  go_enter Tryz.func98, Tryz.ntmps98
  go_wp2_with fail
  refine rgn [w.heap.size + 1] [] fun hHeld => ?_
  refine tk 0 hHeld ?_
  refine tk 1 hHeld ?_
  refine st 2 fun K hK => ?_
  go_simp
  (with_reducible refine Calls.cPF (ptOfC (by omega)) ?_); intros
  refine hd hK ?_
  clear hHeld hK K
  intro hHeld
  refine st 3 fun K hK => ?_
  go_simp
  (with_reducible refine Calls.cF (lnParamC (by omega)) ?_); intros
  refine hd hK ?_
  clear hHeld hK K
  intro hHeld
  refine st 4 fun K hK => ?_
  go_simp
  (with_reducible refine Calls.cA (rApiC (by omega)) ?_); intros
  refine hd hK ?_
  clear hHeld hK K
  intro hHeld
  refine st 5 fun K hK => ?_
  go_simp
  refine hd hK ?_
  clear hHeld hK K
  intro hHeld
  refine dn ?_
  clear hHeld
  go_wp2
  refine ret_bx rfl Tryz.underlying52 rfl (by kernel_rfl) rfl rfl rfl ?_
  exact CARet.fin rfl (by omega)

theorem ofParamC {w : World} {g1x g1y g1z g2x g2y : Bool} {a1x a1y a1z a2x aa2x a2y aa2y : Option Addr} {l1x c1x l1y c1y l1z c1z l2x c2x ll2x cc2x l2y c2y ll2y cc2y k1x k1y k1z k2x k2y : Nat} {la lb lc : Int} {x y : Rat} [h1x : CZ w (.agg #[.bool g1x, .slice a1x l1x c1x]) la k1x] [h1y : CZ w (.agg #[.bool g1y, .slice a1y l1y c1y]) lb k1y] [h1z : CZ w (.agg #[.bool g1z, .slice a1z l1z c1z]) lc k1z] [h2x : CW w (.agg #[.bool g2x, .slice a2x l2x c2x, .slice aa2x ll2x cc2x]) x k2x] [h2y : CW w (.agg #[.bool g2y, .slice a2y l2y c2y, .slice aa2y ll2y cc2y]) y k2y] {q : Nat} [hq : Bx w q 54 [.bool g2x, .slice a2x l2x c2x, .slice aa2x ll2x cc2x, .bool g2y, .slice a2y l2y c2y, .slice aa2y ll2y cc2y]] (b : k1x ≤ 6000 ∧ k1y ≤ 6000 ∧ k1z ≤ 6000 ∧ k2x ≤ 6000 ∧ k2y ≤ 6000) (hv : Hid (LnV la lb lc)) :
    Calls Tryz.prog 93 #[.agg #[.bool g1x, .slice a1x l1x c1x, .bool g1y, .slice a1y l1y c1y, .bool g1z, .slice a1z l1z c1z], .func (.func 98) #[] #[.pointer (some ⟨q, 0, none⟩)]] w (CARet w ((((lb : Int) : Rat) * x + -((la : Int) : Rat) * y) / (((lb : Int) : Rat) * ((lb : Int) : Rat) + -((la : Int) : Rat) * -((la : Int) : Rat))) (24 * (k1x + k1y + k1z + k2x + k2y) + 200)) := by
  go_enter Tryz.func93, Tryz.ntmps93
  go_wp2_with (first
    | (go_at_call 70; (with_reducible refine Calls.cLFB (lnOfC (by omega) hv) ?_); intros)
    | (go_at_call 98; (with_reducible refine Calls.cA (clParamC (by omega)) ?_); intros))
  refine ret_bx rfl Tryz.underlying52 rfl (by kernel_rfl) rfl rfl rfl ?_
  exact CARet.fin rfl (by omega)

theorem lineParamC {w : World} {g1x g1y g1z g2x g2y : Bool} {a1x a1y a1z a2x aa2x a2y aa2y : Option Addr} {l1x c1x l1y c1y l1z c1z l2x c2x ll2x cc2x l2y c2y ll2y cc2y k1x k1y k1z k2x k2y : Nat} {la lb lc : Int} {x y : Rat} [h1x : CZ w (.agg #[.bool g1x, .slice a1x l1x c1x]) la k1x] [h1y : CZ w (.agg #[.bool g1y, .slice a1y l1y c1y]) lb k1y] [h1z : CZ w (.agg #[.bool g1z, .slice a1z l1z c1z]) lc k1z] [h2x : CW w (.agg #[.bool g2x, .slice a2x l2x c2x, .slice aa2x ll2x cc2x]) x k2x] [h2y : CW w (.agg #[.bool g2y, .slice a2y l2y c2y, .slice aa2y ll2y cc2y]) y k2y] (b : k1x ≤ 6000 ∧ k1y ≤ 6000 ∧ k1z ≤ 6000 ∧ k2x ≤ 6000 ∧ k2y ≤ 6000) (hv : Hid (LnV la lb lc)) :
    Calls Tryz.prog 33 #[.agg #[.bool g1x, .slice a1x l1x c1x, .bool g1y, .slice a1y l1y c1y, .bool g1z, .slice a1z l1z c1z], .agg #[.bool g2x, .slice a2x l2x c2x, .slice aa2x ll2x cc2x, .bool g2y, .slice a2y l2y c2y, .slice aa2y ll2y cc2y]] w (CARet w ((((lb : Int) : Rat) * x + -((la : Int) : Rat) * y) / (((lb : Int) : Rat) * ((lb : Int) : Rat) + -((la : Int) : Rat) * -((la : Int) : Rat))) (24 * (k1x + k1y + k1z + k2x + k2y) + 200)) := by
  have hmf : ∀ (fn : Fn) (first cap : Array Value) (W : World), (Instr.makeFunc fn first cap).run Tryz.prog W = .ok (.func fn first cap) W := fun _ _ _ _ => rfl
  go_enter Tryz.func33, Tryz.ntmps33
  go_wp2_with (go_at_call 93; (with_reducible refine Calls.cA (ofParamC (by omega) hv) ?_); intros)
  refine ret_bx rfl Tryz.underlying52 rfl (by kernel_rfl) rfl rfl rfl ?_
  exact CARet.fin rfl (by omega)

theorem clReverseC {w : World} {n1x d1x n1y d1y n1z d1z : Int} {p1x p1y p1z : Option Addr} {la lb lc : Rat} {k1x k1y k1z : Nat} [h1x : CF w (.agg #[.int .i64 n1x, .int .i64 d1x, .pointer p1x]) la k1x] [h1y : CF w (.agg #[.int .i64 n1y, .int .i64 d1y, .pointer p1y]) lb k1y] [h1z : CF w (.agg #[.int .i64 n1z, .int .i64 d1z, .pointer p1z]) lc k1z] (b : k1x ≤ 6200 ∧ k1y ≤ 6200 ∧ k1z ≤ 6200) :
    Calls Tryz.prog 74 #[.agg #[.int .i64 n1x, .int .i64 d1x, .pointer p1x, .int .i64 n1y, .int .i64 d1y, .pointer p1y, .int .i64 n1z, .int .i64 d1z, .pointer p1z]] w (CLZRet w ((-la).num) ((-lb).num) ((-lc).num) (max k1x (max k1y k1z) + 20)) := by
  go_enter Tryz.func74, Tryz.ntmps74
  go_wp2_with (first
    | (go_at_call 75; (with_reducible refine Calls.cLF (lnReverseC (by omega)) ?_); intros)
    | (go_at_call 76; (with_reducible refine Calls.cLZ (lnApiC (by omega)) ?_); intros))
  refine ret_bx rfl Tryz.underlying30 rfl (by kernel_rfl) rfl rfl rfl ?_
  exact CLZRet.fin rfl (by omega) rfl (by omega) rfl (by omega)

theorem ofReverseC {w : World} {g1x g1y g1z : Bool} {a1x a1y a1z : Option Addr} {l1x c1x l1y c1y l1z c1z k1x k1y k1z : Nat} {la lb lc : Int} [h1x : CZ w (.agg #[.bool g1x, .slice a1x l1x c1x]) la k1x] [h1y : CZ w (.agg #[.bool g1y, .slice a1y l1y c1y]) lb k1y] [h1z : CZ w (.agg #[.bool g1z, .slice a1z l1z c1z]) lc k1z] (b : k1x ≤ 6000 ∧ k1y ≤ 6000 ∧ k1z ≤ 6000) (hv : Hid (LnV la lb lc)) :
    Calls Tryz.prog 73 #[.agg #[.bool g1x, .slice a1x l1x c1x, .bool g1y, .slice a1y l1y c1y, .bool g1z, .slice a1z l1z c1z], .func (.func 74) #[] #[]] w (CLZRet w (-la) (-lb) (-lc) (max k1x (max k1y k1z) + 40)) := by
  go_enter Tryz.func73, Tryz.ntmps73
  go_wp2_with (first
    | (go_at_call 70; (with_reducible refine Calls.cLFB (lnOfC (by omega) hv) ?_); intros)
    | (go_at_call 74; (with_reducible refine Calls.cLZ (clReverseC (by omega)) ?_); intros))
  refine ret_bx rfl Tryz.underlying30 rfl (by kernel_rfl) rfl rfl rfl ?_
  exact CLZRet.fin (neg_int _) (by omega) (neg_int _) (by omega) (neg_int _) (by omega)

theorem lineReverseC {w : World} {g1x g1y g1z : Bool} {a1x a1y a1z : Option Addr} {l1x c1x l1y c1y l1z c1z k1x k1y k1z : Nat} {la lb lc : Int} [h1x : CZ w (.agg #[.bool g1x, .slice a1x l1x c1x]) la k1x] [h1y : CZ w (.agg #[.bool g1y, .slice a1y l1y c1y]) lb k1y] [h1z : CZ w (.agg #[.bool g1z, .slice a1z l1z c1z]) lc k1z] (b : k1x ≤ 6000 ∧ k1y ≤ 6000 ∧ k1z ≤ 6000) (hv : Hid (LnV la lb lc)) :
    Calls Tryz.prog 22 #[.agg #[.bool g1x, .slice a1x l1x c1x, .bool g1y, .slice a1y l1y c1y, .bool g1z, .slice a1z l1z c1z]] w (CLZRet w (-la) (-lb) (-lc) (max k1x (max k1y k1z) + 40)) := by
  have hmf : ∀ (fn : Fn) (first cap : Array Value) (W : World), (Instr.makeFunc fn first cap).run Tryz.prog W = .ok (.func fn first cap) W := fun _ _ _ _ => rfl
  go_enter Tryz.func22, Tryz.ntmps22
  go_wp2_with (go_at_call 73; (with_reducible refine Calls.cLZ (ofReverseC (by omega) hv) ?_); intros)
  refine ret_bx rfl Tryz.underlying30 rfl (by kernel_rfl) rfl rfl rfl ?_
  exact CLZRet.fin rfl (by omega) rfl (by omega) rfl (by omega)

end Go.Proofs.YtfdgglddldlpjaaGreat
