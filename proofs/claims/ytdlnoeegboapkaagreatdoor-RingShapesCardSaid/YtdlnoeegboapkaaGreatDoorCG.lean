/-
  Texts of this claim, joined: Con, Rat, Rdg, Frac0.
-/
import Derived.Test.YtdlnoeegboapkaaGreatDoorCF
import Derived.Test.YtdlnoeegboapkaaGreatDoorCD
import Derived.Lib.Hide
import Derived.Deep.QuietTactic
import Derived.BigQuiet
import Derived.Shelf.Bits.Mul64
namespace Go.Proofs.YtdlnoeegboapkaaGreatDoor
open Go.RowKit
set_option linter.unusedSimpArgs false
set_option linter.unusedVariables false
set_option maxHeartbeats 40000000
set_option maxRecDepth 100000
set_option synthInstance.maxHeartbeats 1000000
set_option synthInstance.maxSize 100000
section
theorem makeC {w : World} {g : Bool} {a : Option Addr} {l c n k : Nat} [h : CN w (.slice a l c) n k] : Calls Tryz.prog 119 #[.bool g, .slice a l c] w (SgRet w a l c (sgn g n) k) := by
  go_enter Tryz.func119, Tryz.ntmps119
  cases g
  all_goals
    go_wp2; refine ret_bx rfl Tryz.underlying43 rfl (by kernel_rfl) rfl rfl rfl ?_; exact SgRet.fin (by simp)
theorem signedC {w : World} {g : Bool} {a : Option Addr} {l c n k : Nat} [h : CN w (.slice a l c) n k] : Calls Tryz.prog 189 #[.bool g, .slice a l c] w (SgRet w a l c (sgn g n) k) := by
  go_enter Tryz.func189, Tryz.ntmps189
  cases g
  all_goals
    go_wp2; refine ret_bx rfl Tryz.underlying27 rfl (by kernel_rfl) rfl rfl rfl ?_; exact SgRet.fin (by simp)
theorem intNormC {w : World} {g1 : Bool} {a1 : Option Addr} {l1 c1 k1 : Nat} {x : Int} [h1 : CI w (.agg #[.bool g1, .slice a1 l1 c1]) x k1] (b : k1 ≤ 900000) :
    Calls Tryz.prog 215 #[.agg #[.bool g1, .slice a1 l1 c1]] w (CZRet w x (k1)) := by
  obtain ⟨m, r1, rfl⟩ := zi_of h1
  have i1 : CR w (.slice a1 l1 c1) m k1 := ⟨r1⟩
  clear r1
  cases g1
  all_goals
    go_enter Tryz.func215, Tryz.ntmps215
    go_wp2_with (first
    | (go_at_call 216; (with_reducible refine Calls.cN (normC (by omega)) ?_); intros))
    refine ret_bx rfl Tryz.underlying27 rfl (by kernel_rfl) rfl rfl rfl ?_; exact CZRet.fin (hx := CZ.mkB (by simp)) rfl (by omega)
theorem intNegC {w : World} {g1 : Bool} {a1 : Option Addr} {l1 c1 k1 : Nat} {x : Int} [h1 : CI w (.agg #[.bool g1, .slice a1 l1 c1]) x k1] (b : k1 ≤ 900000) :
    Calls Tryz.prog 291 #[.agg #[.bool g1, .slice a1 l1 c1]] w (CZRet w (-x) (k1)) := by
  obtain ⟨m, r1, rfl⟩ := zi_of h1
  have i : CI w (.agg #[.bool (!g1), .slice a1 l1 c1]) (-sgn g1 m) k1 := ⟨⟨_, _, _, _, rfl, m, r1, by cases g1 <;> simp [sgn]⟩⟩
  clear r1
  cases g1
  all_goals
    simp only [Bool.not_false, Bool.not_true] at i; go_enter Tryz.func291, Tryz.ntmps291
    go_wp2_with (first
    | (go_at_call 215; (with_reducible refine Calls.cZ (intNormC (by omega)) ?_); intros))
    refine ret_bx rfl Tryz.underlying27 rfl (by kernel_rfl) rfl rfl rfl ?_; exact CZRet.fin rfl (by omega)
theorem intAddC {w : World} {g1 g2 : Bool} {a1 a2 : Option Addr} {l1 c1 l2 c2 k1 k2 : Nat} {x y : Int} [h1 : CI w (.agg #[.bool g1, .slice a1 l1 c1]) x k1] [h2 : CI w (.agg #[.bool g2, .slice a2 l2 c2]) y k2] (b : k1 ≤ 900000 ∧ k2 ≤ 900000) :
    Calls Tryz.prog 210 #[.agg #[.bool g1, .slice a1 l1 c1], .agg #[.bool g2, .slice a2 l2 c2]] w (CZRet w (x + y) (max k1 k2 + 1)) := by
  obtain ⟨m, r1, rfl⟩ := zi_of h1
  have i1 : CR w (.slice a1 l1 c1) m k1 := ⟨r1⟩
  obtain ⟨n, r2, rfl⟩ := zi_of h2
  have i2 : CR w (.slice a2 l2 c2) n k2 := ⟨r2⟩
  clear r1 r2
  by_cases hg : g1 = g2
  · subst hg
    have HE := Lib.hid (show sgn g1 (m + n) = sgn g1 m + sgn g1 n by cases g1 <;> simp [sgn] <;> omega)
    go_enter Tryz.func210, Tryz.ntmps210; go_wp2_with fail; refine rgn [w.heap.size + 1 + 1] [] fun hH => ?_; refine tk 0 hH ?_; refine tk 1 hH ?_; refine tk 2 hH ?_; refine tk 3 hH ?_; refine tk 4 hH ?_; refine tk 5 hH ?_; refine st 6 fun K hK => ?_; go_simp; (with_reducible refine Calls.cN (addC (by omega)) ?_); intros; refine hd hK ?_; clear hH hK K; intro hH; refine st 7 fun K hK => ?_; go_simp; (with_reducible refine Calls.cSg (signedC) ?_); intros; refine hd hK ?_; clear hH hK K; intro hH; refine st 8 fun K hK => ?_; go_simp; refine hd hK ?_; clear hH hK K; intro hH; refine dn ?_; clear hH; go_wp2; refine ret_bx rfl Tryz.underlying27 rfl (by kernel_rfl) rfl rfl rfl ?_; exact CZRet.fin HE.out (by omega)
  · have hg' : g2 = !g1 := by cases g1 <;> cases g2 <;> simp_all
    have hb0 : (g1 == g2) = false := by simpa using hg
    by_cases hnm : n ≤ m
    · have hd : decide (n ≤ m) = true := decide_eq_true hnm
      have HE : Hid (sgn g1 (m - n) = sgn g1 m + sgn g2 n) := by show _ = _; subst hg'; cases g1 <;> simp [sgn] <;> omega
      clear hg hg' hnm; go_enter Tryz.func210, Tryz.ntmps210
      go_wp2_with (first
    | (go_at_call 273; (with_reducible refine Calls.cNB (natSubC (by omega)) ?_); intros)
    | (go_at_call 189; (with_reducible refine Calls.cSg (signedC) ?_); intros))
      refine ret_bx rfl Tryz.underlying27 rfl (by kernel_rfl) rfl rfl rfl ?_; exact CZRet.fin HE.out (by omega)
    · have hd : decide (n ≤ m) = false := decide_eq_false hnm
      have HE : Hid (sgn g2 (n - m) = sgn g1 m + sgn g2 n) := by show _ = _; subst hg'; cases g1 <;> simp [sgn] <;> omega
      clear hg hg' hnm; go_enter Tryz.func210, Tryz.ntmps210
      go_wp2_with (first
    | (go_at_call 273; (with_reducible refine Calls.cNB (natSubC (by omega)) ?_); intros)
    | (go_at_call 189; (with_reducible refine Calls.cSg (signedC) ?_); intros))
      refine ret_bx rfl Tryz.underlying27 rfl (by kernel_rfl) rfl rfl rfl ?_; exact CZRet.fin HE.out (by omega)
theorem intMulC {w : World} {g1 g2 : Bool} {a1 a2 : Option Addr} {l1 c1 l2 c2 k1 k2 : Nat} {x y : Int} [h1 : CI w (.agg #[.bool g1, .slice a1 l1 c1]) x k1] [h2 : CI w (.agg #[.bool g2, .slice a2 l2 c2]) y k2] (b : k1 ≤ 900000 ∧ k2 ≤ 900000) :
    Calls Tryz.prog 211 #[.agg #[.bool g1, .slice a1 l1 c1], .agg #[.bool g2, .slice a2 l2 c2]] w (CZRet w (x * y) (k1 + k2)) := by
  obtain ⟨m, r1, rfl⟩ := zi_of h1
  have i1 : CR w (.slice a1 l1 c1) m k1 := ⟨r1⟩
  obtain ⟨n, r2, rfl⟩ := zi_of h2
  have i2 : CR w (.slice a2 l2 c2) n k2 := ⟨r2⟩
  clear r1 r2
  have HE := Lib.hid (show sgn (g1 != g2) (m * n) = sgn g1 m * sgn g2 n by cases g1 <;> cases g2 <;> simp [sgn, Int.neg_mul, Int.mul_neg])
  go_enter Tryz.func211, Tryz.ntmps211; go_wp2_with fail; refine rgn [w.heap.size + 1 + 1] [] fun hH => ?_; refine tk 0 hH ?_; refine tk 1 hH ?_; refine tk 2 hH ?_; refine tk 3 hH ?_; refine tk 4 hH ?_; refine tk 5 hH ?_; refine tk 6 hH ?_; refine tk 7 hH ?_; refine tk 8 hH ?_; refine st 9 fun K hK => ?_; go_simp; (with_reducible refine Calls.cN (mulC (by omega)) ?_); intros; refine hd hK ?_; clear hH hK K; intro hH; refine st 10 fun K hK => ?_; go_simp; (with_reducible refine Calls.cSg (signedC) ?_); intros; refine hd hK ?_; clear hH hK K; intro hH; refine st 11 fun K hK => ?_; go_simp; refine hd hK ?_; clear hH hK K; intro hH; refine dn ?_; clear hH; go_wp2; refine ret_bx rfl Tryz.underlying27 rfl (by kernel_rfl) rfl rfl rfl ?_; exact CZRet.fin HE.out (by omega)
theorem intSignC {w : World} {g1 : Bool} {a1 : Option Addr} {l1 c1 k1 : Nat} {x : Int} [h1 : CI w (.agg #[.bool g1, .slice a1 l1 c1]) x k1] (b : k1 ≤ 900000) :
    Calls Tryz.prog 235 #[.agg #[.bool g1, .slice a1 l1 c1]] w (fun e w' => e = .returned (.int .i64 (isgn x)) ∧ Below w.heap.size w w') := by
  obtain ⟨m, r1, rfl⟩ := zi_of h1
  have i1 : CR w (.slice a1 l1 c1) m k1 := ⟨r1⟩
  clear r1
  by_cases hm : m = 0
  · have hb := nbits_eq0 hm
    have HE : Hid (isgn (sgn g1 m) = 0) := by subst hm; cases g1 <;> rfl
    clear hm; go_enter Tryz.func235, Tryz.ntmps235
    go_wp2_with (first
    | (go_at_call 133; (with_reducible refine Calls.cS (bitsC (by omega)) ?_); intros))
    go_ret
    exact E.fin (by rw [HE.out]; rfl)
  · have hb := nbits_pos' hm
    have HE : Hid (isgn (sgn g1 m) = if g1 then -1 else 1) := by
      show _ = _
      unfold isgn
      cases g1 <;> simp [sgn] <;> omega
    clear hm
    cases g1
    all_goals
      go_enter Tryz.func235, Tryz.ntmps235
      go_wp2_with (first
      | (go_at_call 133; (with_reducible refine Calls.cS (bitsC (by omega)) ?_); intros))
      go_ret
      exact E.fin (by rw [HE.out]; rfl)
theorem int64C {w : World} {g1 : Bool} {a1 : Option Addr} {l1 c1 k1 : Nat} {x : Int} [h1 : CI w (.agg #[.bool g1, .slice a1 l1 c1]) x k1] :
    Calls Tryz.prog 251 #[.agg #[.bool g1, .slice a1 l1 c1]] w (fun e w' => e = .returned (int64V x) ∧ Below w.heap.size w w') := by
  obtain ⟨m, r1, rfl⟩ := zi_of h1
  have i1 : CR w (.slice a1 l1 c1) m k1 := ⟨r1⟩
  clear r1
  by_cases hm : m < 18446744073709551616
  · have hu := Lib.hid (uintV_lt hm)
    cases g1
    · have HI := Lib.hid (fun h : (m : Int) ≤ 9223372036854775807 => int64V_in (x := sgn false m) (by simp only [sgn_false]; omega))
      have HO := Lib.hid (fun h : ¬ (m : Int) ≤ 9223372036854775807 => int64V_out (x := sgn false m) (by simp only [sgn_false]; omega))
      go_enter Tryz.func251, Tryz.ntmps251; go_wp2_with fail; with_reducible refine Calls.cS uintC ?_; rw [hu.out]
      by_cases h9 : (m : Int) ≤ 9223372036854775807
      · go_wp2; go_ret2
        exact E.fin (by rw [HI.out h9]; rfl)
      · go_wp2; go_ret2
        exact E.fin (by rw [HO.out h9]; rfl)
    · have HI := Lib.hid (fun h : (m : Int) ≤ 9223372036854775808 => int64V_in (x := sgn true m) (by simp only [sgn_true]; omega))
      have HO := Lib.hid (fun h : ¬ (m : Int) ≤ 9223372036854775808 => int64V_out (x := sgn true m) (by simp only [sgn_true]; omega))
      have HB := Lib.hid (fun h : (m : Int) ≤ 9223372036854775808 => wrap_back (m := m) (by omega)); go_enter Tryz.func251, Tryz.ntmps251; go_wp2_with fail; with_reducible refine Calls.cS uintC ?_; rw [hu.out]
      by_cases h9 : (m : Int) ≤ 9223372036854775808
      · go_wp2; go_ret2
        exact E.fin (by rw [HI.out h9]; exact congrArg (fun z => Value.tuple #[.int .i64 z, .bool true]) (HB.out h9))
      · go_wp2; go_ret2
        exact E.fin (by rw [HO.out h9]; rfl)
  · have hu := Lib.hid (uintV_ge (n := m) (by omega))
    have HO := Lib.hid (int64V_out (x := sgn g1 m) (by cases g1 <;> simp only [sgn_true, sgn_false] <;> omega))
    go_enter Tryz.func251, Tryz.ntmps251; go_wp2_with fail; with_reducible refine Calls.cS uintC ?_; rw [hu.out]; go_wp2; go_ret2
    exact E.fin (by rw [HO.out]; rfl)
theorem fromIntC {w : World} {x : Int} (b : -9223372036854775808 ≤ x ∧ x < 9223372036854775808) : Calls Tryz.prog 183 #[.int .i64 x] w (CZRet w x 2) := by
  by_cases hx : x < 0
  · have HE := Lib.hid (wrap_negneg b.1 hx); have HD := Lib.hid (show true = decide (x < 0) by simp [hx]); go_enter Tryz.func183, Tryz.ntmps183; go_wp2_with fail; rw [HE.out]; with_reducible refine Calls.cN (fromUintC (by omega)) ?_
    intros
    go_wp2; refine ret_bx rfl Tryz.underlying27 rfl (by kernel_rfl) rfl rfl rfl ?_; exact CZRet.fin (hx := CZ.mkA (by omega) HD.out) rfl (by omega)
  · have hx0 : 0 ≤ x := by omega
    have HD := Lib.hid (show false = decide (x < 0) by simp; exact hx0)
    go_enter Tryz.func183, Tryz.ntmps183; go_wp2_with fail; with_reducible refine Calls.cN (fromUintC (by omega)) ?_
    intros
    go_wp2; refine ret_bx rfl Tryz.underlying27 rfl (by kernel_rfl) rfl rfl rfl ?_; exact CZRet.fin (hx := CZ.mkA (by omega) HD.out) rfl (by omega)
theorem numIntC {w : World} {x : Int} (b : -9223372036854775808 ≤ x ∧ x < 9223372036854775808) : Calls Tryz.prog 141 #[.int .i64 x] w (CZRet w x 2) := by
  by_cases hx : x < 0
  · have HE := Lib.hid (wrap_negneg b.1 hx)
    have HD := Lib.hid (show sgn true ((x.natAbs : Nat) : Int).natAbs = x by simp [sgn]; omega)
    go_enter Tryz.func141, Tryz.ntmps141; go_wp2_with fail; rw [HE.out]; with_reducible refine Calls.cN (wordC (by omega)) ?_
    intros
    go_wp2_with (first
    | (go_at_call 119; (with_reducible refine Calls.cSg (makeC) ?_); intros))
    refine ret_bx rfl Tryz.underlying43 rfl (by kernel_rfl) rfl rfl rfl ?_; exact CZRet.fin HD.out (by omega)
  · have hx0 : 0 ≤ x := by omega
    have HD := Lib.hid (show sgn false x.natAbs = x by simp [sgn]; omega)
    go_enter Tryz.func141, Tryz.ntmps141; go_wp2_with fail; with_reducible refine Calls.cN (wordC (by omega)) ?_
    intros
    go_wp2_with (first
    | (go_at_call 119; (with_reducible refine Calls.cSg (makeC) ?_); intros))
    refine ret_bx rfl Tryz.underlying43 rfl (by kernel_rfl) rfl rfl rfl ?_; exact CZRet.fin HD.out (by omega)
theorem numSignC {w : World} {g1 : Bool} {a1 : Option Addr} {l1 c1 k1 : Nat} {x : Int} [h1 : CZ w (.agg #[.bool g1, .slice a1 l1 c1]) x k1] :
    Calls Tryz.prog 116 #[.agg #[.bool g1, .slice a1 l1 c1]] w (fun e w' => e = .returned (.int .i64 (isgn x)) ∧ Below w.heap.size w w') := by
  have HL := Lib.hid (zz_of h1).2.len; have HG := Lib.hid (zz_of h1).1
  rcases isgn_cases x with ⟨hx, e⟩ | ⟨hx, e⟩ | ⟨hx, e⟩
  · have e1 : 0 < l1 := by rw [HL.out]; exact nf_len_pos (by omega)
    obtain rfl : g1 = true := by rw [HG.out]; simp [hx]
    clear HL HG hx h1; go_enter Tryz.func116, Tryz.ntmps116; go_wp2; go_ret
    exact E.fin (by rw [e]; rfl)
  · obtain rfl : l1 = 0 := by rw [HL.out, hx]; rfl
    clear HL HG hx h1; go_enter Tryz.func116, Tryz.ntmps116; go_wp2; go_ret
    exact E.fin (by rw [e]; rfl)
  · have e1 : 0 < l1 := by rw [HL.out]; exact nf_len_pos (by omega)
    obtain rfl : g1 = false := by rw [HG.out]; simp; omega
    clear HL HG hx h1; go_enter Tryz.func116, Tryz.ntmps116; go_wp2; go_ret
    exact E.fin (by rw [e]; rfl)
theorem numMinusC {w : World} {g1 : Bool} {a1 : Option Addr} {l1 c1 k1 : Nat} {x : Int} [h1 : CZ w (.agg #[.bool g1, .slice a1 l1 c1]) x k1] :
    Calls Tryz.prog 265 #[.agg #[.bool g1, .slice a1 l1 c1]] w (CZRet w (-x) (k1)) := by
  have z1 := zz_of h1
  have i1 : CN w (.slice a1 l1 c1) x.natAbs k1 := ⟨z1.2⟩
  have HE : Hid (sgn (!g1) x.natAbs = -x) := by show _ = _; rw [z1.1]; exact sgn_not
  clear z1; go_enter Tryz.func265, Tryz.ntmps265
  go_wp2_with (first
    | (go_at_call 119; (with_reducible refine Calls.cSg (makeC) ?_); intros))
  refine ret_bx rfl Tryz.underlying43 rfl (by kernel_rfl) rfl rfl rfl ?_; exact CZRet.fin HE.out (by omega)
theorem numMulC {w : World} {g1 g2 : Bool} {a1 a2 : Option Addr} {l1 c1 l2 c2 k1 k2 : Nat} {x y : Int} [h1 : CZ w (.agg #[.bool g1, .slice a1 l1 c1]) x k1] [h2 : CZ w (.agg #[.bool g2, .slice a2 l2 c2]) y k2] (b : k1 ≤ 900000 ∧ k2 ≤ 900000) :
    Calls Tryz.prog 118 #[.agg #[.bool g1, .slice a1 l1 c1], .agg #[.bool g2, .slice a2 l2 c2]] w (CZRet w (x * y) (k1 + k2)) := by
  have z1 := zz_of h1
  have i1 : CN w (.slice a1 l1 c1) x.natAbs k1 := ⟨z1.2⟩
  have z2 := zz_of h2
  have i2 : CN w (.slice a2 l2 c2) y.natAbs k2 := ⟨z2.2⟩
  have HE : Hid (sgn (g1 != g2) (x.natAbs * y.natAbs) = x * y) := by show _ = _; rw [z1.1, z2.1]; exact sgn_mul
  clear z1 z2; go_enter Tryz.func118, Tryz.ntmps118; go_wp2_with fail; refine rgn [w.heap.size + 1 + 1] [] fun hH => ?_; refine tk 0 hH ?_; refine tk 1 hH ?_; refine tk 2 hH ?_; refine tk 3 hH ?_; refine tk 4 hH ?_; refine tk 5 hH ?_; refine tk 6 hH ?_; refine tk 7 hH ?_; refine tk 8 hH ?_; refine st 9 fun K hK => ?_; go_simp; (with_reducible refine Calls.cN (numProductC (by omega)) ?_); intros; refine hd hK ?_; clear hH hK K; intro hH; refine st 10 fun K hK => ?_; go_simp; (with_reducible refine Calls.cSg (makeC) ?_); intros; refine hd hK ?_; clear hH hK K; intro hH; refine st 11 fun K hK => ?_; go_simp; refine hd hK ?_; clear hH hK K; intro hH; refine dn ?_; clear hH; go_wp2; refine ret_bx rfl Tryz.underlying43 rfl (by kernel_rfl) rfl rfl rfl ?_; exact CZRet.fin HE.out (by omega)
theorem numAddC {w : World} {g1 g2 : Bool} {a1 a2 : Option Addr} {l1 c1 l2 c2 k1 k2 : Nat} {x y : Int} [h1 : CZ w (.agg #[.bool g1, .slice a1 l1 c1]) x k1] [h2 : CZ w (.agg #[.bool g2, .slice a2 l2 c2]) y k2] (b : k1 ≤ 900000 ∧ k2 ≤ 900000) :
    Calls Tryz.prog 117 #[.agg #[.bool g1, .slice a1 l1 c1], .agg #[.bool g2, .slice a2 l2 c2]] w (CZRet w (x + y) (max k1 k2 + 1)) := by
  have z1 := zz_of h1
  have i1 : CN w (.slice a1 l1 c1) x.natAbs k1 := ⟨z1.2⟩
  have z2 := zz_of h2
  have i2 : CN w (.slice a2 l2 c2) y.natAbs k2 := ⟨z2.2⟩
  by_cases hg : g1 = g2
  · subst hg
    have HE : Hid (sgn g1 (x.natAbs + y.natAbs) = x + y) := by show _ = _; have h := sgn_add (z1.1.symm.trans z2.1); rw [← z1.1] at h; exact h
    clear z1 z2; go_enter Tryz.func117, Tryz.ntmps117; go_wp2_with fail; refine rgn [w.heap.size + 1 + 1] [] fun hH => ?_; refine tk 0 hH ?_; refine tk 1 hH ?_; refine tk 2 hH ?_; refine tk 3 hH ?_; refine tk 4 hH ?_; refine tk 5 hH ?_; refine st 6 fun K hK => ?_; go_simp; (with_reducible refine Calls.cN (numSumC (by omega)) ?_); intros; refine hd hK ?_; clear hH hK K; intro hH; refine st 7 fun K hK => ?_; go_simp; (with_reducible refine Calls.cSg (makeC) ?_); intros; refine hd hK ?_; clear hH hK K; intro hH; refine st 8 fun K hK => ?_; go_simp; refine hd hK ?_; clear hH hK K; intro hH; refine dn ?_; clear hH; go_wp2; refine ret_bx rfl Tryz.underlying43 rfl (by kernel_rfl) rfl rfl rfl ?_; exact CZRet.fin HE.out (by omega)
  · have hb0 : (g1 == g2) = false := by simpa using hg
    rw [z1.1, z2.1] at hg
    by_cases hl : x.natAbs < y.natAbs
    · have HE : Hid (sgn g2 (y.natAbs - x.natAbs) = x + y) := by show _ = _; rw [z2.1]; have := @sgn_less y x (Ne.symm hg) (by omega); rw [Int.add_comm]; exact this
      have hc := cmpN_ltB hl
      have hle : x.natAbs ≤ y.natAbs := (by omega); clear z1 z2 hg hl; go_enter Tryz.func117, Tryz.ntmps117
      go_wp2_with (first
    | (go_at_call 139; (with_reducible refine Calls.cE (numCmpC) ?_); intros))
      refine rgn [w.heap.size + 1 + 1] [] fun hH => ?_; refine tk 0 hH ?_; refine tk 1 hH ?_; refine tk 2 hH ?_; refine tk 3 hH ?_; refine tk 4 hH ?_; refine tk 5 hH ?_; refine st 6 fun K hK => ?_; go_simp; (with_reducible refine Calls.cN (numLessC (by omega) hle) ?_); intros; refine hd hK ?_; clear hH hK K; intro hH; refine st 7 fun K hK => ?_; go_simp; (with_reducible refine Calls.cSg (makeC) ?_); intros; refine hd hK ?_; clear hH hK K; intro hH; refine st 8 fun K hK => ?_; go_simp; refine hd hK ?_; clear hH hK K; intro hH; refine dn ?_; clear hH; go_wp2; refine ret_bx rfl Tryz.underlying43 rfl (by kernel_rfl) rfl rfl rfl ?_; exact CZRet.fin HE.out (by omega)
    · have hle : y.natAbs ≤ x.natAbs := by omega
      have HE : Hid (sgn g1 (x.natAbs - y.natAbs) = x + y) := by show _ = _; rw [z1.1]; exact sgn_less hg hle
      have hc := cmpN_geB hle
      clear z1 z2 hg hl; go_enter Tryz.func117, Tryz.ntmps117
      go_wp2_with (first
    | (go_at_call 139; (with_reducible refine Calls.cE (numCmpC) ?_); intros))
      refine rgn [w.heap.size + 1 + 1] [] fun hH => ?_; refine tk 0 hH ?_; refine tk 1 hH ?_; refine tk 2 hH ?_; refine tk 3 hH ?_; refine tk 4 hH ?_; refine tk 5 hH ?_; refine st 6 fun K hK => ?_; go_simp; (with_reducible refine Calls.cN (numLessC (by omega) hle) ?_); intros; refine hd hK ?_; clear hH hK K; intro hH; refine st 7 fun K hK => ?_; go_simp; (with_reducible refine Calls.cSg (makeC) ?_); intros; refine hd hK ?_; clear hH hK K; intro hH; refine st 8 fun K hK => ?_; go_simp; refine hd hK ?_; clear hH hK K; intro hH; refine dn ?_; clear hH; go_wp2; refine ret_bx rfl Tryz.underlying43 rfl (by kernel_rfl) rfl rfl rfl ?_; exact CZRet.fin HE.out (by omega)
theorem numCompareC {w : World} {g1 g2 : Bool} {a1 a2 : Option Addr} {l1 c1 l2 c2 k1 k2 : Nat} {x y : Int} [h1 : CZ w (.agg #[.bool g1, .slice a1 l1 c1]) x k1] [h2 : CZ w (.agg #[.bool g2, .slice a2 l2 c2]) y k2] (b : k1 ≤ 900000 ∧ k2 ≤ 900000) :
    Calls Tryz.prog 277 #[.agg #[.bool g1, .slice a1 l1 c1], .agg #[.bool g2, .slice a2 l2 c2]] w (fun e w' => e = .returned (.int .i64 (icmp x y)) ∧ Below w.heap.size w w') := by
  have HE := Lib.hid (show isgn (x + -y) = icmp x y by unfold isgn icmp; repeat' split; all_goals omega)
  go_enter Tryz.func277, Tryz.ntmps277; go_wp2_with fail; refine rgn [] [] fun hH => ?_; refine tk 0 hH ?_; refine tk 1 hH ?_; refine st 2 fun K hK => ?_; go_simp; (with_reducible refine Calls.cZ (numMinusC) ?_); intros; refine hd hK ?_; clear hH hK K; intro hH; refine st 3 fun K hK => ?_; go_simp; (with_reducible refine Calls.cZ (numAddC (by omega)) ?_); intros; refine hd hK ?_; clear hH hK K; intro hH; refine st 4 fun K hK => ?_; go_simp; (with_reducible refine Calls.cE (numSignC) ?_); intros; refine hd hK ?_; clear hH hK K; intro hH; refine tk 5 hH ?_; refine dn ?_; clear hH; go_wp2; go_ret
  exact E.fin (by rw [HE.out]; rfl)
theorem refIC {w : World} {g1 : Bool} {a1 : Option Addr} {l1 c1 k1 : Nat} {x : Int} [h1 : CI w (.agg #[.bool g1, .slice a1 l1 c1]) x k1] (b : k1 ≤ 900000) :
    Calls Tryz.prog 120 #[.agg #[.bool g1, .slice a1 l1 c1]] w (CZRet w x (k1)) := by
  obtain ⟨m, r1, rfl⟩ := zi_of h1
  have i1 : CR w (.slice a1 l1 c1) m k1 := ⟨r1⟩
  clear r1; go_enter Tryz.func120, Tryz.ntmps120; go_wp2_with fail; refine rgn [w.heap.size + 1] [] fun hH => ?_; refine tk 0 hH ?_; refine tk 1 hH ?_; refine tk 2 hH ?_; refine tk 3 hH ?_; refine st 4 fun K hK => ?_; go_simp; (with_reducible refine Calls.cN (refNC (by omega)) ?_); intros; refine hd hK ?_; clear hH hK K; intro hH; refine st 5 fun K hK => ?_; go_simp; (with_reducible refine Calls.cSg (makeC) ?_); intros; refine hd hK ?_; clear hH hK K; intro hH; refine st 6 fun K hK => ?_; go_simp; refine hd hK ?_; clear hH hK K; intro hH; refine dn ?_; clear hH; go_wp2; refine ret_bx rfl Tryz.underlying43 rfl (by kernel_rfl) rfl rfl rfl ?_; exact CZRet.fin rfl (by omega)
theorem toIC {w : World} {g1 : Bool} {a1 : Option Addr} {l1 c1 k1 : Nat} {x : Int} [h1 : CZ w (.agg #[.bool g1, .slice a1 l1 c1]) x k1] (b : k1 ≤ 900000) :
    Calls Tryz.prog 101 #[.agg #[.bool g1, .slice a1 l1 c1]] w (CZRet w x (k1)) := by
  have z1 := zz_of h1
  have i1 : CN w (.slice a1 l1 c1) x.natAbs k1 := ⟨z1.2⟩
  have HG := Lib.hid z1.1; clear z1; go_enter Tryz.func101, Tryz.ntmps101; go_wp2_with fail; refine rgn [w.heap.size + 1] [] fun hH => ?_; refine tk 0 hH ?_; refine tk 1 hH ?_; refine tk 2 hH ?_; refine tk 3 hH ?_; refine st 4 fun K hK => ?_; go_simp; (with_reducible refine Calls.cN (refToNC (by omega)) ?_); intros; refine hd hK ?_; clear hH hK K; intro hH; refine tk 5 hH ?_; refine st 6 fun K hK => ?_; go_simp; refine hd hK ?_; clear hH hK K; intro hH; refine dn ?_; clear hH; go_wp2; refine ret_bx rfl Tryz.underlying27 rfl (by kernel_rfl) rfl rfl rfl ?_; exact CZRet.fin (hx := CZ.mkA rfl HG.out) rfl (by omega)
end
section
theorem mk_den (z : Int) {m : Nat} (hm : m ≠ 0) : (mkRat z m).den = m / Nat.gcd z.natAbs m := by
  rw [Rat.den_mkRat, if_neg hm, Nat.gcd_comm]
theorem mk_num (z : Int) {m : Nat} (hm : m ≠ 0) : (mkRat z m).num = z / ((Nat.gcd z.natAbs m : Nat) : Int) := by
  rw [Rat.num_mkRat, if_neg hm, Nat.gcd_comm]
theorem int_div_abs (z : Int) (g : Nat) (h : g ∣ z.natAbs) : (z / (g : Int)).natAbs = z.natAbs / g := by
  rcases Nat.eq_zero_or_pos g with h0 | h0
  · subst h0; simp
  · obtain ⟨k, hk⟩ := h
    have : z = (g : Int) * k ∨ z = -((g : Int) * k) := by
      rcases Int.natAbs_eq z with e | e
      · left; rw [e, hk]; simp
      · right; rw [e, hk]; simp
    have hg : (g : Int) ≠ 0 := (by omega); rw [hk, Nat.mul_div_cancel_left _ h0]
    rcases this with e | e
    · rw [e, Int.mul_ediv_cancel_left _ hg]; simp
    · rw [e, show -((g : Int) * k) = (g : Int) * (-(k : Int)) by simp [Int.mul_neg], Int.mul_ediv_cancel_left _ hg]; simp
theorem mk_abs (z : Int) {m : Nat} (hm : m ≠ 0) : (mkRat z m).num.natAbs = z.natAbs / Nat.gcd z.natAbs m := by
  rw [mk_num z hm, int_div_abs _ _ (Nat.gcd_dvd_left _ _)]
theorem mk_neg (z : Int) {m : Nat} (hm : m ≠ 0) : (mkRat z m).num < 0 ↔ z < 0 := by
  rw [mk_num z hm]
  have hg : 0 < Nat.gcd z.natAbs m := Nat.gcd_pos_of_pos_right _ (Nat.pos_of_ne_zero hm)
  constructor
  · intro h
    rcases Int.lt_or_le z 0 with h' | h'
    · exact h'
    · have := Int.ediv_nonneg h' (show (0 : Int) ≤ ((Nat.gcd z.natAbs m : Nat) : Int) by omega); omega
  · intro h; exact Int.ediv_neg_of_neg_of_pos h (by omega)
theorem mk_eq0 (z : Int) {m : Nat} (hm : m ≠ 0) : mkRat z m = 0 ↔ z = 0 := by
  rw [Rat.mkRat_eq_zero hm]
theorem mk_zero (m : Nat) : mkRat 0 m = 0 := by simp
theorem mk_one (z : Int) : mkRat z 1 = (z : Rat) := Rat.mkRat_one z
theorem rat_add_mk (x y : Rat) : x + y = mkRat (x.num * (y.den : Int) + y.num * (x.den : Int)) (x.den * y.den) := by
  rw [Rat.add_def, Rat.normalize_eq_mkRat]
theorem rat_mul_mk (x y : Rat) : x * y = mkRat (x.num * y.num) (x.den * y.den) := by
  rw [Rat.mul_def, Rat.normalize_eq_mkRat]
theorem rat_add1 {x y : Rat} (hx : x.den = 1) (hy : y.den = 1) : x + y = ((x.num + y.num : Int) : Rat) := by
  rw [rat_add_mk, hx, hy, ← mk_one]; simp
theorem rat_mul1 {x y : Rat} (hx : x.den = 1) (hy : y.den = 1) : x * y = ((x.num * y.num : Int) : Rat) := by
  rw [rat_mul_mk, hx, hy, ← mk_one]
theorem rat_inv_mk (x : Rat) (h : x ≠ 0) : x⁻¹ = mkRat (if x.num < 0 then -(x.den : Int) else (x.den : Int)) x.num.natAbs := by
  have h0 : x.num ≠ 0 := fun e => h (Rat.num_eq_zero.1 e)
  rw [Rat.inv_def]
  split
  · rename_i hn
    rw [show x.num = -((x.num.natAbs : Nat) : Int) by omega, Rat.divInt_neg']
    rw [Rat.divInt_ofNat]; simp
  · rw [show x.num = ((x.num.natAbs : Nat) : Int) by omega, Rat.divInt_ofNat]; simp
theorem inv_num (x : Rat) : (x⁻¹).num = x.num.sign * x.den := Rat.num_inv x
theorem inv_den {x : Rat} (h : x.num ≠ 0) : (x⁻¹).den = x.num.natAbs := by rw [Rat.den_inv, if_neg h]
def rsgn (x : Rat) : Int := if x.num < 0 then -1 else if x.num = 0 then 0 else 1
def rcmp (x y : Rat) : Int := rsgn (x - y)
theorem den_pos' (x : Rat) : 0 < x.den := Nat.pos_of_ne_zero x.den_nz
theorem sub_same_den {x y : Rat} (h : x.den = y.den) : rcmp x y = if x.num < y.num then -1 else if x.num = y.num then 0 else 1 := by
  unfold rcmp rsgn
  have hd := den_pos' y
  have e : x - y = mkRat ((x.num - y.num) * (y.den : Int)) (y.den * y.den) := by
    rw [Rat.sub_eq_add_neg, rat_add_mk, Rat.neg_num, Rat.neg_den, h]
    congr 1; rw [Int.sub_mul, Int.neg_mul]; omega
  have hdd : y.den * y.den ≠ 0 := Nat.mul_ne_zero (by omega) (by omega)
  rw [e]
  have h1 := mk_neg ((x.num - y.num) * (y.den : Int)) hdd
  have h2 := mk_eq0 ((x.num - y.num) * (y.den : Int)) hdd
  rw [← Rat.num_eq_zero] at h2
  have h3 : (x.num - y.num) * (y.den : Int) < 0 ↔ x.num < y.num := by
    constructor
    · intro h'
      rcases Int.lt_or_le x.num y.num with h'' | h''
      · exact h''
      · have := Int.mul_nonneg (show 0 ≤ x.num - y.num by omega) (show (0 : Int) ≤ y.den by omega); omega
    · intro h'; exact Int.mul_neg_of_neg_of_pos (by omega) (by omega)
  have h4 : (x.num - y.num) * (y.den : Int) = 0 ↔ x.num = y.num := by
    rw [Int.mul_eq_zero]; omega
  simp only [h1, h2, h3, h4]
theorem rsgn_zero {x : Rat} : rsgn x = 0 ↔ x = 0 := by
  unfold rsgn; rw [← Rat.num_eq_zero]
  split
  · omega
  · split <;> omega
theorem rsgn_neg {x : Rat} : rsgn x < 0 ↔ x < 0 := by
  unfold rsgn
  rw [show x < 0 ↔ x.num < 0 by rw [← Rat.not_le, ← Rat.num_nonneg]; omega]
  split
  · omega
  · split <;> omega
theorem rsgn_pos {x : Rat} : 0 < rsgn x ↔ 0 < x := by
  unfold rsgn
  have e : 0 < x ↔ 0 < x.num := by
    have := @Rat.neg_le_neg_iff 0 x
    rw [show (-0 : Rat) = 0 from rfl] at this
    rw [← Rat.not_le, ← this, ← Rat.num_nonneg, Rat.neg_num]; omega
  rw [e]
  split
  · omega
  · split <;> omega
theorem rsgn_cases (x : Rat) : (rsgn x = -1 ∧ x < 0) ∨ (rsgn x = 0 ∧ x = 0) ∨ (rsgn x = 1 ∧ 0 < x) := by
  have h1 := @rsgn_neg x
  have h2 := @rsgn_zero x
  have h3 := @rsgn_pos x
  have h4 : rsgn x = -1 ∨ rsgn x = 0 ∨ rsgn x = 1 := by unfold rsgn; split; (left; rfl); split; (right; left; rfl); (right; right; rfl)
  rcases h4 with e | e | e
  · left; exact ⟨e, h1.1 (by omega)⟩
  · right; left; exact ⟨e, h2.1 e⟩
  · right; right; exact ⟨e, h3.1 (by omega)⟩
def rgcd (x y : Rat) : Rat := mkRat ((Nat.gcd (x.num.natAbs * y.den) (y.num.natAbs * x.den) : Nat) : Int) (x.den * y.den)
theorem rgcd1 {x y : Rat} (hx : x.den = 1) (hy : y.den = 1) : rgcd x y = ((Nat.gcd x.num.natAbs y.num.natAbs : Nat) : Int) := by
  unfold rgcd; rw [hx, hy, ← mk_one]; simp
end
section
structure Pres (W W2 : World) : Prop where
  nn : ∀ {v : Value} {n k : Nat}, Nn W v n k → Nn W2 v n k
  rr : ∀ {v : Value} {n k : Nat}, Rr W v n k → Rr W2 v n k
  pair : ∀ {b : Nat} {l : Array Value}, W.heap[b]? = some (Obj.cells l 300 (0, 0)) → W2.heap[b]? = some (Obj.cells l 300 (0, 0))
theorem Pres.below {W W2 : World} (h : Below W.heap.size W W2) : Pres W W2 := ⟨fun x => x.keep h, fun x => x.keep h, fun x => by rw [h.block _ (heap_lt x)]; exact x⟩
theorem Pres.tape {W W2 : World} {g : Nat} (h : Tp1 W W2 g) : Pres W W2 := ⟨fun x => Nn.tp2 h.gb h.tp x, fun x => Rr.tp2 h.gb h.tp x, fun {b l} x => by
  rw [h.gb.block _ (heap_lt x) ?_]
  · exact x
  · intro e
    injection e with e
    subst e; obtain ⟨a, n, c, at_, zs, hh, _⟩ := h.tp; rw [x] at hh
    injection hh with hh
    injection hh with _ h2
    exact absurd h2 (by decide)⟩
theorem Pres.soft {W : World} {q i : Nat} {x : Value} (h : SoftB W q) : Pres W (W.setCell ⟨q, i, none⟩ x) := ⟨fun y => y.soft h, fun y => y.soft h, fun {b l} y => by
  obtain ⟨t, l', h1, h2, _⟩ := h.out
  have hne : q ≠ b := by
    intro e; subst e; rw [h1] at y
    injection y with y
    injection y with _ y2
    exact h2.pair y2
  simp only [World.setCell, Array.getElem?_modify]
  rw [if_neg hne]; exact y⟩
def Qq (W : World) (v : Value) (q : Rat) (k : Nat) : Prop := ∃ g a l c aa ll cc, v = .agg #[.bool g, .slice a l c, .slice aa ll cc] ∧ (g = decide (q.num < 0) ∧ Nn W (.slice a l c) q.num.natAbs k) ∧ Nn W (.slice aa ll cc) (if q.den = 1 then 0 else q.den) k
def Qa (W : World) (v : Value) (q : Rat) (k : Nat) : Prop := ∃ g a l c aa ll cc, v = .agg #[.bool g, .slice a l c, .slice aa ll cc] ∧ (g = decide (q.num < 0) ∧ Nn W (.slice a l c) q.num.natAbs k) ∧ Nn W (.slice aa ll cc) q.den k
def Qw (W : World) (v : Value) (q : Rat) (k : Nat) : Prop := ∃ g a l c aa ll cc m n, v = .agg #[.bool g, .slice a l c, .slice aa ll cc] ∧ Rr W (.slice a l c) m k ∧ Rr W (.slice aa ll cc) n k ∧ q = mkRat (sgn g m) n
def Qf (W : World) (v : Value) (q : Rat) (k : Nat) : Prop :=
  (v = .agg #[.int .i64 q.num, .int .i64 ((q.den : Int) - 1), .pointer none] ∧ -4611686018427387904 < q.num ∧ q.num < 4611686018427387904 ∧ q.den < 4611686018427387904 ∧ 2 ≤ k) ∨
  (∃ b g a l c aa ll cc, v = .agg #[.int .i64 0, .int .i64 0, .pointer (some ⟨b, 0, none⟩)] ∧ W.heap[b]? = some (.cells #[.bool g, .slice a l c, .slice aa ll cc] 300 (0, 0)) ∧
    (g = decide (q.num < 0) ∧ Nn W (.slice a l c) q.num.natAbs k) ∧ Nn W (.slice aa ll cc) q.den k ∧ q ≠ 0)
theorem Qq.map {W W2 : World} {v : Value} {q : Rat} {k : Nat} (h : Qq W v q k) (p : Pres W W2) : Qq W2 v q k := by
  obtain ⟨g, a, l, c, aa, ll, cc, e, h1, h2⟩ := h; exact ⟨g, a, l, c, aa, ll, cc, e, ⟨h1.1, p.nn h1.2⟩, p.nn h2⟩
theorem Qa.map {W W2 : World} {v : Value} {q : Rat} {k : Nat} (h : Qa W v q k) (p : Pres W W2) : Qa W2 v q k := by
  obtain ⟨g, a, l, c, aa, ll, cc, e, h1, h2⟩ := h; exact ⟨g, a, l, c, aa, ll, cc, e, ⟨h1.1, p.nn h1.2⟩, p.nn h2⟩
theorem Qw.map {W W2 : World} {v : Value} {q : Rat} {k : Nat} (h : Qw W v q k) (p : Pres W W2) : Qw W2 v q k := by
  obtain ⟨g, a, l, c, aa, ll, cc, m, n, e, h1, h2, h3⟩ := h; exact ⟨g, a, l, c, aa, ll, cc, m, n, e, p.rr h1, p.rr h2, h3⟩
theorem Qf.map {W W2 : World} {v : Value} {q : Rat} {k : Nat} (h : Qf W v q k) (p : Pres W W2) : Qf W2 v q k := by
  rcases h with h | ⟨b, g, a, l, c, aa, ll, cc, e, h0, h1, h2, h3⟩
  · exact .inl h
  · exact .inr ⟨b, g, a, l, c, aa, ll, cc, e, p.pair h0, ⟨h1.1, p.nn h1.2⟩, p.nn h2, h3⟩
class CQ (W : World) (v : Value) (q : outParam Rat) (k : outParam Nat) : Prop where out : Qq W v q k
instance CQ.al {W : World} {v : Value} {q : Rat} {k : Nat} {o : Obj} [h : CQ W v q k] : CQ (W.alloc o) v q k := ⟨h.out.map (Pres.below (blw_one _ _))⟩
instance CQ.dr {W : World} {v : Value} {q : Rat} {k : Nat} [h : CQ W v q k] : CQ W.drew v q k := ⟨h.out.map (Pres.below (blw_drew (Below.refl _ _)))⟩
instance CQ.kp {W W2 : World} {v : Value} {q : Rat} {k : Nat} [b : Kp1 W W2] [h : CQ W v q k] : CQ W2 v q k := ⟨h.out.map (Pres.below (b.out))⟩
instance CQ.tp {W W2 : World} {v : Value} {q : Rat} {k : Nat} {g : Nat} [b : Tp1 W W2 g] [h : CQ W v q k] : CQ W2 v q k := ⟨h.out.map (Pres.tape b)⟩
instance CQ.st {W : World} {v : Value} {q : Rat} {k : Nat} {qb ib : Nat} {xv : Value} [b : SoftB W qb] [h : CQ W v q k] : CQ (W.setCell ⟨qb, ib, none⟩ xv) v q k := ⟨h.out.map (Pres.soft b)⟩
class CA (W : World) (v : Value) (q : outParam Rat) (k : outParam Nat) : Prop where out : Qa W v q k
instance CA.al {W : World} {v : Value} {q : Rat} {k : Nat} {o : Obj} [h : CA W v q k] : CA (W.alloc o) v q k := ⟨h.out.map (Pres.below (blw_one _ _))⟩
instance CA.kp {W W2 : World} {v : Value} {q : Rat} {k : Nat} [b : Kp1 W W2] [h : CA W v q k] : CA W2 v q k := ⟨h.out.map (Pres.below (b.out))⟩
instance CA.st {W : World} {v : Value} {q : Rat} {k : Nat} {qb ib : Nat} {xv : Value} [b : SoftB W qb] [h : CA W v q k] : CA (W.setCell ⟨qb, ib, none⟩ xv) v q k := ⟨h.out.map (Pres.soft b)⟩
class CW (W : World) (v : Value) (q : outParam Rat) (k : outParam Nat) : Prop where out : Qw W v q k
instance CW.al {W : World} {v : Value} {q : Rat} {k : Nat} {o : Obj} [h : CW W v q k] : CW (W.alloc o) v q k := ⟨h.out.map (Pres.below (blw_one _ _))⟩
instance CW.dr {W : World} {v : Value} {q : Rat} {k : Nat} [h : CW W v q k] : CW W.drew v q k := ⟨h.out.map (Pres.below (blw_drew (Below.refl _ _)))⟩
instance CW.kp {W W2 : World} {v : Value} {q : Rat} {k : Nat} [b : Kp1 W W2] [h : CW W v q k] : CW W2 v q k := ⟨h.out.map (Pres.below (b.out))⟩
class CF (W : World) (v : Value) (q : outParam Rat) (k : outParam Nat) : Prop where out : Qf W v q k
instance CF.al {W : World} {v : Value} {q : Rat} {k : Nat} {o : Obj} [h : CF W v q k] : CF (W.alloc o) v q k := ⟨h.out.map (Pres.below (blw_one _ _))⟩
instance CF.dr {W : World} {v : Value} {q : Rat} {k : Nat} [h : CF W v q k] : CF W.drew v q k := ⟨h.out.map (Pres.below (blw_drew (Below.refl _ _)))⟩
instance CF.kp {W W2 : World} {v : Value} {q : Rat} {k : Nat} [b : Kp1 W W2] [h : CF W v q k] : CF W2 v q k := ⟨h.out.map (Pres.below (b.out))⟩
instance CF.st {W : World} {v : Value} {q : Rat} {k : Nat} {qb ib : Nat} {xv : Value} [b : SoftB W qb] [h : CF W v q k] : CF (W.setCell ⟨qb, ib, none⟩ xv) v q k := ⟨h.out.map (Pres.soft b)⟩
theorem Qq.mono {W : World} {v : Value} {q : Rat} {k k' : Nat} (h : Qq W v q k) (b : k ≤ k') : Qq W v q k' := by
  obtain ⟨g, a, l, c, aa, ll, cc, e, h1, h2⟩ := h; exact ⟨g, a, l, c, aa, ll, cc, e, ⟨h1.1, h1.2.mono b⟩, h2.mono b⟩
theorem Qa.mono {W : World} {v : Value} {q : Rat} {k k' : Nat} (h : Qa W v q k) (b : k ≤ k') : Qa W v q k' := by
  obtain ⟨g, a, l, c, aa, ll, cc, e, h1, h2⟩ := h; exact ⟨g, a, l, c, aa, ll, cc, e, ⟨h1.1, h1.2.mono b⟩, h2.mono b⟩
theorem Qf.mono {W : World} {v : Value} {q : Rat} {k k' : Nat} (h : Qf W v q k) (b : k ≤ k') : Qf W v q k' := by
  rcases h with ⟨e, h1, h2, h3, h4⟩ | ⟨bb, g, a, l, c, aa, ll, cc, e, h0, h1, h2, h3⟩
  · exact .inl ⟨e, h1, h2, h3, Nat.le_trans h4 b⟩
  · exact .inr ⟨bb, g, a, l, c, aa, ll, cc, e, h0, ⟨h1.1, h1.2.mono b⟩, h2.mono b, h3⟩
theorem CQ.cast {W : World} {v : Value} {q q' : Rat} {k k' : Nat} (h : CQ W v q k) (e : q = q') (b : k ≤ k') : CQ W v q' k' := by
  subst e; exact ⟨h.out.mono b⟩
theorem CA.cast {W : World} {v : Value} {q q' : Rat} {k k' : Nat} (h : CA W v q k) (e : q = q') (b : k ≤ k') : CA W v q' k' := by
  subst e; exact ⟨h.out.mono b⟩
theorem CF.cast {W : World} {v : Value} {q q' : Rat} {k k' : Nat} (h : CF W v q k) (e : q = q') (b : k ≤ k') : CF W v q' k' := by
  subst e; exact ⟨h.out.mono b⟩
def CQRet (w : World) (x : Rat) (k : Nat) (e : Ending) (w' : World) : Prop := ∃ g a l c aa ll cc, e = .returned (.agg #[.bool g, .slice a l c, .slice aa ll cc]) ∧ CQ w' (.agg #[.bool g, .slice a l c, .slice aa ll cc]) x k ∧ Below w.heap.size w w'
theorem Calls.cQ {P : Program} {f : FuncId} {args : Array Value} {w : World} {x : Rat} {k : Nat} {K : Ending → World → Prop} (h : Calls P f args w (CQRet w x k))
    (hK : ∀ w' [Kp1 w w'] (g : Bool) (a : Option Addr) (l : Nat) (c : Nat) (aa : Option Addr) (ll : Nat) (cc : Nat) [CQ w' (.agg #[.bool g, .slice a l c, .slice aa ll cc]) x k], K (.returned (.agg #[.bool g, .slice a l c, .slice aa ll cc])) w') : Calls P f args w K := by
  refine h.mono ?_
  rintro e w' ⟨g, a, l, c, aa, ll, cc, rfl, hx, hb⟩
  exact @hK w' ⟨hb⟩ g a l c aa ll cc hx
theorem CQRet.fin {w w' : World} {g : Bool} {a : Option Addr} {l : Nat} {c : Nat} {aa : Option Addr} {ll : Nat} {cc : Nat} {x x' : Rat} {kx : Nat} {k : Nat} [b : Kp w w'] [hx : CQ w' (.agg #[.bool g, .slice a l c, .slice aa ll cc]) x kx] (ex : x = x') (mx : kx ≤ k) : CQRet w x' k (.returned (.agg #[.bool g, .slice a l c, .slice aa ll cc])) w' :=
  ⟨_, _, _, _, _, _, _, rfl, hx.cast ex mx, b.out⟩
def CARet (w : World) (x : Rat) (k : Nat) (e : Ending) (w' : World) : Prop := ∃ g a l c aa ll cc, e = .returned (.agg #[.bool g, .slice a l c, .slice aa ll cc]) ∧ CA w' (.agg #[.bool g, .slice a l c, .slice aa ll cc]) x k ∧ Below w.heap.size w w'
theorem Calls.cA {P : Program} {f : FuncId} {args : Array Value} {w : World} {x : Rat} {k : Nat} {K : Ending → World → Prop} (h : Calls P f args w (CARet w x k))
    (hK : ∀ w' [Kp1 w w'] (g : Bool) (a : Option Addr) (l : Nat) (c : Nat) (aa : Option Addr) (ll : Nat) (cc : Nat) [CA w' (.agg #[.bool g, .slice a l c, .slice aa ll cc]) x k], K (.returned (.agg #[.bool g, .slice a l c, .slice aa ll cc])) w') : Calls P f args w K := by
  refine h.mono ?_
  rintro e w' ⟨g, a, l, c, aa, ll, cc, rfl, hx, hb⟩
  exact @hK w' ⟨hb⟩ g a l c aa ll cc hx
theorem CARet.fin {w w' : World} {g : Bool} {a : Option Addr} {l : Nat} {c : Nat} {aa : Option Addr} {ll : Nat} {cc : Nat} {x x' : Rat} {kx : Nat} {k : Nat} [b : Kp w w'] [hx : CA w' (.agg #[.bool g, .slice a l c, .slice aa ll cc]) x kx] (ex : x = x') (mx : kx ≤ k) : CARet w x' k (.returned (.agg #[.bool g, .slice a l c, .slice aa ll cc])) w' :=
  ⟨_, _, _, _, _, _, _, rfl, hx.cast ex mx, b.out⟩
def CFRet (w : World) (x : Rat) (k : Nat) (e : Ending) (w' : World) : Prop := ∃ n d p, e = .returned (.agg #[.int .i64 n, .int .i64 d, .pointer p]) ∧ CF w' (.agg #[.int .i64 n, .int .i64 d, .pointer p]) x k ∧ Below w.heap.size w w'
theorem Calls.cF {P : Program} {f : FuncId} {args : Array Value} {w : World} {x : Rat} {k : Nat} {K : Ending → World → Prop} (h : Calls P f args w (CFRet w x k))
    (hK : ∀ w' [Kp1 w w'] (n : Int) (d : Int) (p : Option Addr) [CF w' (.agg #[.int .i64 n, .int .i64 d, .pointer p]) x k], K (.returned (.agg #[.int .i64 n, .int .i64 d, .pointer p])) w') : Calls P f args w K := by
  refine h.mono ?_
  rintro e w' ⟨n, d, p, rfl, hx, hb⟩
  exact @hK w' ⟨hb⟩ n d p hx
theorem CFRet.fin {w w' : World} {n : Int} {d : Int} {p : Option Addr} {x x' : Rat} {kx : Nat} {k : Nat} [b : Kp w w'] [hx : CF w' (.agg #[.int .i64 n, .int .i64 d, .pointer p]) x kx] (ex : x = x') (mx : kx ≤ k) : CFRet w x' k (.returned (.agg #[.int .i64 n, .int .i64 d, .pointer p])) w' :=
  ⟨_, _, _, rfl, hx.cast ex mx, b.out⟩
def CPQRet (w : World) (x y : Rat) (k : Nat) (e : Ending) (w' : World) : Prop := ∃ gx ax lx cx aax llx ccx gy ay ly cy aay lly ccy, e = .returned (.agg #[.bool gx, .slice ax lx cx, .slice aax llx ccx, .bool gy, .slice ay ly cy, .slice aay lly ccy]) ∧ CQ w' (.agg #[.bool gx, .slice ax lx cx, .slice aax llx ccx]) x k ∧ CQ w' (.agg #[.bool gy, .slice ay ly cy, .slice aay lly ccy]) y k ∧ Below w.heap.size w w'
theorem Calls.cPQ {P : Program} {f : FuncId} {args : Array Value} {w : World} {x y : Rat} {k : Nat} {K : Ending → World → Prop} (h : Calls P f args w (CPQRet w x y k))
    (hK : ∀ w' [Kp1 w w'] (gx : Bool) (ax : Option Addr) (lx : Nat) (cx : Nat) (aax : Option Addr) (llx : Nat) (ccx : Nat) (gy : Bool) (ay : Option Addr) (ly : Nat) (cy : Nat) (aay : Option Addr) (lly : Nat) (ccy : Nat) [CQ w' (.agg #[.bool gx, .slice ax lx cx, .slice aax llx ccx]) x k] [CQ w' (.agg #[.bool gy, .slice ay ly cy, .slice aay lly ccy]) y k], K (.returned (.agg #[.bool gx, .slice ax lx cx, .slice aax llx ccx, .bool gy, .slice ay ly cy, .slice aay lly ccy])) w') : Calls P f args w K := by
  refine h.mono ?_
  rintro e w' ⟨gx, ax, lx, cx, aax, llx, ccx, gy, ay, ly, cy, aay, lly, ccy, rfl, hx, hy, hb⟩
  exact @hK w' ⟨hb⟩ gx ax lx cx aax llx ccx gy ay ly cy aay lly ccy hx hy
theorem CPQRet.fin {w w' : World} {gx : Bool} {ax : Option Addr} {lx : Nat} {cx : Nat} {aax : Option Addr} {llx : Nat} {ccx : Nat} {gy : Bool} {ay : Option Addr} {ly : Nat} {cy : Nat} {aay : Option Addr} {lly : Nat} {ccy : Nat} {x x' : Rat} {kx : Nat} {y y' : Rat} {ky : Nat} {k : Nat} [b : Kp w w'] [hx : CQ w' (.agg #[.bool gx, .slice ax lx cx, .slice aax llx ccx]) x kx] [hy : CQ w' (.agg #[.bool gy, .slice ay ly cy, .slice aay lly ccy]) y ky] (ex : x = x') (mx : kx ≤ k) (ey : y = y') (my : ky ≤ k) : CPQRet w x' y' k (.returned (.agg #[.bool gx, .slice ax lx cx, .slice aax llx ccx, .bool gy, .slice ay ly cy, .slice aay lly ccy])) w' :=
  ⟨_, _, _, _, _, _, _, _, _, _, _, _, _, _, rfl, hx.cast ex mx, hy.cast ey my, b.out⟩
def CPARet (w : World) (x y : Rat) (k : Nat) (e : Ending) (w' : World) : Prop := ∃ gx ax lx cx aax llx ccx gy ay ly cy aay lly ccy, e = .returned (.agg #[.bool gx, .slice ax lx cx, .slice aax llx ccx, .bool gy, .slice ay ly cy, .slice aay lly ccy]) ∧ CA w' (.agg #[.bool gx, .slice ax lx cx, .slice aax llx ccx]) x k ∧ CA w' (.agg #[.bool gy, .slice ay ly cy, .slice aay lly ccy]) y k ∧ Below w.heap.size w w'
theorem Calls.cPA {P : Program} {f : FuncId} {args : Array Value} {w : World} {x y : Rat} {k : Nat} {K : Ending → World → Prop} (h : Calls P f args w (CPARet w x y k))
    (hK : ∀ w' [Kp1 w w'] (gx : Bool) (ax : Option Addr) (lx : Nat) (cx : Nat) (aax : Option Addr) (llx : Nat) (ccx : Nat) (gy : Bool) (ay : Option Addr) (ly : Nat) (cy : Nat) (aay : Option Addr) (lly : Nat) (ccy : Nat) [CA w' (.agg #[.bool gx, .slice ax lx cx, .slice aax llx ccx]) x k] [CA w' (.agg #[.bool gy, .slice ay ly cy, .slice aay lly ccy]) y k], K (.returned (.agg #[.bool gx, .slice ax lx cx, .slice aax llx ccx, .bool gy, .slice ay ly cy, .slice aay lly ccy])) w') : Calls P f args w K := by
  refine h.mono ?_
  rintro e w' ⟨gx, ax, lx, cx, aax, llx, ccx, gy, ay, ly, cy, aay, lly, ccy, rfl, hx, hy, hb⟩
  exact @hK w' ⟨hb⟩ gx ax lx cx aax llx ccx gy ay ly cy aay lly ccy hx hy
theorem CPARet.fin {w w' : World} {gx : Bool} {ax : Option Addr} {lx : Nat} {cx : Nat} {aax : Option Addr} {llx : Nat} {ccx : Nat} {gy : Bool} {ay : Option Addr} {ly : Nat} {cy : Nat} {aay : Option Addr} {lly : Nat} {ccy : Nat} {x x' : Rat} {kx : Nat} {y y' : Rat} {ky : Nat} {k : Nat} [b : Kp w w'] [hx : CA w' (.agg #[.bool gx, .slice ax lx cx, .slice aax llx ccx]) x kx] [hy : CA w' (.agg #[.bool gy, .slice ay ly cy, .slice aay lly ccy]) y ky] (ex : x = x') (mx : kx ≤ k) (ey : y = y') (my : ky ≤ k) : CPARet w x' y' k (.returned (.agg #[.bool gx, .slice ax lx cx, .slice aax llx ccx, .bool gy, .slice ay ly cy, .slice aay lly ccy])) w' :=
  ⟨_, _, _, _, _, _, _, _, _, _, _, _, _, _, rfl, hx.cast ex mx, hy.cast ey my, b.out⟩
def CPFRet (w : World) (x y : Rat) (k : Nat) (e : Ending) (w' : World) : Prop := ∃ nx dx px ny dy py, e = .returned (.agg #[.int .i64 nx, .int .i64 dx, .pointer px, .int .i64 ny, .int .i64 dy, .pointer py]) ∧ CF w' (.agg #[.int .i64 nx, .int .i64 dx, .pointer px]) x k ∧ CF w' (.agg #[.int .i64 ny, .int .i64 dy, .pointer py]) y k ∧ Below w.heap.size w w'
theorem Calls.cPF {P : Program} {f : FuncId} {args : Array Value} {w : World} {x y : Rat} {k : Nat} {K : Ending → World → Prop} (h : Calls P f args w (CPFRet w x y k))
    (hK : ∀ w' [Kp1 w w'] (nx : Int) (dx : Int) (px : Option Addr) (ny : Int) (dy : Int) (py : Option Addr) [CF w' (.agg #[.int .i64 nx, .int .i64 dx, .pointer px]) x k] [CF w' (.agg #[.int .i64 ny, .int .i64 dy, .pointer py]) y k], K (.returned (.agg #[.int .i64 nx, .int .i64 dx, .pointer px, .int .i64 ny, .int .i64 dy, .pointer py])) w') : Calls P f args w K := by
  refine h.mono ?_
  rintro e w' ⟨nx, dx, px, ny, dy, py, rfl, hx, hy, hb⟩
  exact @hK w' ⟨hb⟩ nx dx px ny dy py hx hy
theorem CPFRet.fin {w w' : World} {nx : Int} {dx : Int} {px : Option Addr} {ny : Int} {dy : Int} {py : Option Addr} {x x' : Rat} {kx : Nat} {y y' : Rat} {ky : Nat} {k : Nat} [b : Kp w w'] [hx : CF w' (.agg #[.int .i64 nx, .int .i64 dx, .pointer px]) x kx] [hy : CF w' (.agg #[.int .i64 ny, .int .i64 dy, .pointer py]) y ky] (ex : x = x') (mx : kx ≤ k) (ey : y = y') (my : ky ≤ k) : CPFRet w x' y' k (.returned (.agg #[.int .i64 nx, .int .i64 dx, .pointer px, .int .i64 ny, .int .i64 dy, .pointer py])) w' :=
  ⟨_, _, _, _, _, _, rfl, hx.cast ex mx, hy.cast ey my, b.out⟩
def CLZRet (w : World) (x y z : Int) (k : Nat) (e : Ending) (w' : World) : Prop := ∃ gx ax lx cx gy ay ly cy gz az lz cz, e = .returned (.agg #[.bool gx, .slice ax lx cx, .bool gy, .slice ay ly cy, .bool gz, .slice az lz cz]) ∧ CZ w' (.agg #[.bool gx, .slice ax lx cx]) x k ∧ CZ w' (.agg #[.bool gy, .slice ay ly cy]) y k ∧ CZ w' (.agg #[.bool gz, .slice az lz cz]) z k ∧ Below w.heap.size w w'
theorem Calls.cLZ {P : Program} {f : FuncId} {args : Array Value} {w : World} {x y z : Int} {k : Nat} {K : Ending → World → Prop} (h : Calls P f args w (CLZRet w x y z k))
    (hK : ∀ w' [Kp1 w w'] (gx : Bool) (ax : Option Addr) (lx : Nat) (cx : Nat) (gy : Bool) (ay : Option Addr) (ly : Nat) (cy : Nat) (gz : Bool) (az : Option Addr) (lz : Nat) (cz : Nat) [CZ w' (.agg #[.bool gx, .slice ax lx cx]) x k] [CZ w' (.agg #[.bool gy, .slice ay ly cy]) y k] [CZ w' (.agg #[.bool gz, .slice az lz cz]) z k], K (.returned (.agg #[.bool gx, .slice ax lx cx, .bool gy, .slice ay ly cy, .bool gz, .slice az lz cz])) w') : Calls P f args w K := by
  refine h.mono ?_
  rintro e w' ⟨gx, ax, lx, cx, gy, ay, ly, cy, gz, az, lz, cz, rfl, hx, hy, hz, hb⟩
  exact @hK w' ⟨hb⟩ gx ax lx cx gy ay ly cy gz az lz cz hx hy hz
theorem CLZRet.fin {w w' : World} {gx : Bool} {ax : Option Addr} {lx : Nat} {cx : Nat} {gy : Bool} {ay : Option Addr} {ly : Nat} {cy : Nat} {gz : Bool} {az : Option Addr} {lz : Nat} {cz : Nat} {x x' : Int} {kx : Nat} {y y' : Int} {ky : Nat} {z z' : Int} {kz : Nat} {k : Nat} [b : Kp w w'] [hx : CZ w' (.agg #[.bool gx, .slice ax lx cx]) x kx] [hy : CZ w' (.agg #[.bool gy, .slice ay ly cy]) y ky] [hz : CZ w' (.agg #[.bool gz, .slice az lz cz]) z kz] (ex : x = x') (mx : kx ≤ k) (ey : y = y') (my : ky ≤ k) (ez : z = z') (mz : kz ≤ k) : CLZRet w x' y' z' k (.returned (.agg #[.bool gx, .slice ax lx cx, .bool gy, .slice ay ly cy, .bool gz, .slice az lz cz])) w' :=
  ⟨_, _, _, _, _, _, _, _, _, _, _, _, rfl, hx.cast ex mx, hy.cast ey my, hz.cast ez mz, b.out⟩
def CLFRet (w : World) (x y z : Rat) (k : Nat) (e : Ending) (w' : World) : Prop := ∃ nx dx px ny dy py nz dz pz, e = .returned (.agg #[.int .i64 nx, .int .i64 dx, .pointer px, .int .i64 ny, .int .i64 dy, .pointer py, .int .i64 nz, .int .i64 dz, .pointer pz]) ∧ CF w' (.agg #[.int .i64 nx, .int .i64 dx, .pointer px]) x k ∧ CF w' (.agg #[.int .i64 ny, .int .i64 dy, .pointer py]) y k ∧ CF w' (.agg #[.int .i64 nz, .int .i64 dz, .pointer pz]) z k ∧ Below w.heap.size w w'
theorem Calls.cLF {P : Program} {f : FuncId} {args : Array Value} {w : World} {x y z : Rat} {k : Nat} {K : Ending → World → Prop} (h : Calls P f args w (CLFRet w x y z k))
    (hK : ∀ w' [Kp1 w w'] (nx : Int) (dx : Int) (px : Option Addr) (ny : Int) (dy : Int) (py : Option Addr) (nz : Int) (dz : Int) (pz : Option Addr) [CF w' (.agg #[.int .i64 nx, .int .i64 dx, .pointer px]) x k] [CF w' (.agg #[.int .i64 ny, .int .i64 dy, .pointer py]) y k] [CF w' (.agg #[.int .i64 nz, .int .i64 dz, .pointer pz]) z k], K (.returned (.agg #[.int .i64 nx, .int .i64 dx, .pointer px, .int .i64 ny, .int .i64 dy, .pointer py, .int .i64 nz, .int .i64 dz, .pointer pz])) w') : Calls P f args w K := by
  refine h.mono ?_
  rintro e w' ⟨nx, dx, px, ny, dy, py, nz, dz, pz, rfl, hx, hy, hz, hb⟩
  exact @hK w' ⟨hb⟩ nx dx px ny dy py nz dz pz hx hy hz
theorem CLFRet.fin {w w' : World} {nx : Int} {dx : Int} {px : Option Addr} {ny : Int} {dy : Int} {py : Option Addr} {nz : Int} {dz : Int} {pz : Option Addr} {x x' : Rat} {kx : Nat} {y y' : Rat} {ky : Nat} {z z' : Rat} {kz : Nat} {k : Nat} [b : Kp w w'] [hx : CF w' (.agg #[.int .i64 nx, .int .i64 dx, .pointer px]) x kx] [hy : CF w' (.agg #[.int .i64 ny, .int .i64 dy, .pointer py]) y ky] [hz : CF w' (.agg #[.int .i64 nz, .int .i64 dz, .pointer pz]) z kz] (ex : x = x') (mx : kx ≤ k) (ey : y = y') (my : ky ≤ k) (ez : z = z') (mz : kz ≤ k) : CLFRet w x' y' z' k (.returned (.agg #[.int .i64 nx, .int .i64 dx, .pointer px, .int .i64 ny, .int .i64 dy, .pointer py, .int .i64 nz, .int .i64 dz, .pointer pz])) w' :=
  ⟨_, _, _, _, _, _, _, _, _, rfl, hx.cast ex mx, hy.cast ey my, hz.cast ez mz, b.out⟩
theorem agg3 {g g' : Bool} {a a' aa aa' : Option Addr} {l l' c c' ll ll' cc cc' : Nat} (e : Value.agg #[.bool g, .slice a l c, .slice aa ll cc] = .agg #[.bool g', .slice a' l' c', .slice aa' ll' cc']) :
    g' = g ∧ Value.slice a' l' c' = .slice a l c ∧ Value.slice aa' ll' cc' = .slice aa ll cc := by
  simp only [Value.agg.injEq, Array.mk.injEq, List.cons.injEq, Value.bool.injEq, and_true] at e; exact ⟨e.1.symm, e.2.1.symm, e.2.2.symm⟩
theorem CQ.num {W : World} {g : Bool} {a aa : Option Addr} {l c ll cc : Nat} {q : Rat} {k : Nat} (h : CQ W (.agg #[.bool g, .slice a l c, .slice aa ll cc]) q k) : CZ W (.agg #[.bool g, .slice a l c]) q.num k := by
  obtain ⟨g', a', l', c', aa', ll', cc', e, h1, h2⟩ := h.out; obtain ⟨rfl, e1, e2⟩ := agg3 e
  exact ⟨⟨_, _, _, _, rfl, by rw [← e1]; exact h1⟩⟩
theorem CQ.den {W : World} {g : Bool} {a aa : Option Addr} {l c ll cc : Nat} {q : Rat} {k : Nat} (h : CQ W (.agg #[.bool g, .slice a l c, .slice aa ll cc]) q k) : CN W (.slice aa ll cc) (if q.den = 1 then 0 else q.den) k := by
  obtain ⟨g', a', l', c', aa', ll', cc', e, h1, h2⟩ := h.out; obtain ⟨rfl, e1, e2⟩ := agg3 e
  exact ⟨by rw [← e2]; exact h2⟩
theorem CA.num {W : World} {g : Bool} {a aa : Option Addr} {l c ll cc : Nat} {q : Rat} {k : Nat} (h : CA W (.agg #[.bool g, .slice a l c, .slice aa ll cc]) q k) : CZ W (.agg #[.bool g, .slice a l c]) q.num k := by
  obtain ⟨g', a', l', c', aa', ll', cc', e, h1, h2⟩ := h.out; obtain ⟨rfl, e1, e2⟩ := agg3 e
  exact ⟨⟨_, _, _, _, rfl, by rw [← e1]; exact h1⟩⟩
theorem CA.den {W : World} {g : Bool} {a aa : Option Addr} {l c ll cc : Nat} {q : Rat} {k : Nat} (h : CA W (.agg #[.bool g, .slice a l c, .slice aa ll cc]) q k) : CN W (.slice aa ll cc) q.den k := by
  obtain ⟨g', a', l', c', aa', ll', cc', e, h1, h2⟩ := h.out; obtain ⟨rfl, e1, e2⟩ := agg3 e
  exact ⟨by rw [← e2]; exact h2⟩
theorem CW.parts {W : World} {g : Bool} {a aa : Option Addr} {l c ll cc : Nat} {q : Rat} {k : Nat} (h : CW W (.agg #[.bool g, .slice a l c, .slice aa ll cc]) q k) : ∃ x n, q = mkRat x n ∧ CI W (.agg #[.bool g, .slice a l c]) x k ∧ CR W (.slice aa ll cc) n k := by
  obtain ⟨g', a', l', c', aa', ll', cc', m, n, e, h1, h2, h3⟩ := h.out; obtain ⟨rfl, e1, e2⟩ := agg3 e
  exact ⟨_, n, h3, ⟨⟨_, _, _, _, rfl, m, by rw [← e1]; exact h1, rfl⟩⟩, ⟨by rw [← e2]; exact h2⟩⟩
theorem CQ.mk' {W : World} {g : Bool} {a aa : Option Addr} {l c ll cc : Nat} {z : Int} {n : Nat} {q : Rat} {k1 k2 k : Nat} [h1 : CZ W (.agg #[.bool g, .slice a l c]) z k1] [h2 : CN W (.slice aa ll cc) n k2] (e1 : z = q.num) (e2 : n = if q.den = 1 then 0 else q.den) (b1 : k1 ≤ k) (b2 : k2 ≤ k) :
    CQ W (.agg #[.bool g, .slice a l c, .slice aa ll cc]) q k := by
  subst e1
  have h := zz_of h1
  exact ⟨⟨_, _, _, _, _, _, _, rfl, ⟨h.1, h.2.mono b1⟩, by rw [← e2]; exact h2.out.mono b2⟩⟩
theorem CA.mk' {W : World} {g : Bool} {a aa : Option Addr} {l c ll cc : Nat} {z : Int} {n : Nat} {q : Rat} {k1 k2 k : Nat} [h1 : CZ W (.agg #[.bool g, .slice a l c]) z k1] [h2 : CN W (.slice aa ll cc) n k2] (e1 : z = q.num) (e2 : n = q.den) (b1 : k1 ≤ k) (b2 : k2 ≤ k) :
    CA W (.agg #[.bool g, .slice a l c, .slice aa ll cc]) q k := by
  subst e1
  have h := zz_of h1
  exact ⟨⟨_, _, _, _, _, _, _, rfl, ⟨h.1, h.2.mono b1⟩, by rw [← e2]; exact h2.out.mono b2⟩⟩
instance (priority := low) CQ.int {W : World} {g : Bool} {a : Option Addr} {l c : Nat} {z : Int} {k : Nat} [h : CZ W (.agg #[.bool g, .slice a l c]) z k] : CQ W (.agg #[.bool g, .slice a l c, .slice none 0 0]) (z : Rat) k :=
  CQ.mk' (k2 := 0) (by simp) (by simp) (Nat.le_refl _) (Nat.zero_le _)
theorem CW.of {W : World} {v : Value} {q : Rat} {k : Nat} (h : CA W v q k) : CW W v q k := by
  obtain ⟨g, a, l, c, aa, ll, cc, rfl, ⟨h1, h2⟩, h3⟩ := h.out
  refine ⟨⟨g, a, l, c, aa, ll, cc, _, _, rfl, h2.rr, h3.rr, ?_⟩⟩
  rw [h1, sgn_of, Rat.mkRat_self]
instance CW.ofA {W : World} {v : Value} {q : Rat} {k : Nat} [h : CA W v q k] : CW W v q k := CW.of h
theorem CF.small {W : World} {n d : Int} {q : Rat} {k : Nat} (e1 : q.num = n) (e2 : (q.den : Int) = d + 1) (b1 : -4611686018427387904 < n) (b2 : n < 4611686018427387904) (b3 : d + 1 < 4611686018427387904) (hk : 2 ≤ k) :
    CF W (.agg #[.int .i64 n, .int .i64 d, .pointer none]) q k := by
  subst e1
  refine ⟨.inl ⟨?_, b1, b2, by omega, hk⟩⟩
  rw [show (q.den : Int) - 1 = d by omega]
theorem CF.big {W : World} {b : Nat} {g : Bool} {a aa : Option Addr} {l c ll cc : Nat} {z : Int} {n : Nat} {q : Rat} {k1 k2 k : Nat} [h : Bx W b 300 [.bool g, .slice a l c, .slice aa ll cc]] [h1 : CZ W (.agg #[.bool g, .slice a l c]) z k1] [h2 : CN W (.slice aa ll cc) n k2]
    (e1 : z = q.num) (e2 : n = q.den) (hq : q ≠ 0) (b1 : k1 ≤ k) (b2 : k2 ≤ k) : CF W (.agg #[.int .i64 0, .int .i64 0, .pointer (some ⟨b, 0, none⟩)]) q k := by
  subst e1
  have h3 := zz_of h1
  exact ⟨.inr ⟨b, g, a, l, c, aa, ll, cc, rfl, h.out, ⟨h3.1, h3.2.mono b1⟩, by rw [← e2]; exact h2.out.mono b2, hq⟩⟩
theorem CF.cases {W : World} {n d : Int} {p : Option Addr} {q : Rat} {k : Nat} (h : CF W (.agg #[.int .i64 n, .int .i64 d, .pointer p]) q k) :
    (p = none ∧ q.num = n ∧ (q.den : Int) = d + 1 ∧ -4611686018427387904 < n ∧ n < 4611686018427387904 ∧ 0 ≤ d ∧ d < 4611686018427387903 ∧ 2 ≤ k) ∨
    (n = 0 ∧ d = 0 ∧ q ≠ 0 ∧ ∃ b g a l c aa ll cc, p = some ⟨b, 0, none⟩ ∧ Bx W b 300 [.bool g, .slice a l c, .slice aa ll cc] ∧ CZ W (.agg #[.bool g, .slice a l c]) q.num k ∧ CN W (.slice aa ll cc) q.den k) := by
  rcases h.out with ⟨e, h1, h2, h3, h4⟩ | ⟨b, g, a, l, c, aa, ll, cc, e, h0, h1, h2, h3⟩
  · left
    simp only [Value.agg.injEq, Array.mk.injEq, List.cons.injEq, Value.int.injEq, Value.pointer.injEq, true_and, and_true] at e; obtain ⟨e1, e2, e3⟩ := e
    have := den_pos' q
    subst e1
    exact ⟨e3, rfl, by omega, h1, h2, by omega, by omega, h4⟩
  · right
    simp only [Value.agg.injEq, Array.mk.injEq, List.cons.injEq, Value.int.injEq, Value.pointer.injEq, true_and, and_true] at e; obtain ⟨e1, e2, e3⟩ := e; exact ⟨e1, e2, h3, b, g, a, l, c, aa, ll, cc, e3, ⟨h0⟩, ⟨⟨_, _, _, _, rfl, h1⟩⟩, ⟨h2⟩⟩
end
section
theorem gcd_step' {p q g : Nat} (hq : q ≠ 0) (h : Nat.gcd p q = g) : Nat.gcd q (p % q) = g ∧ p % q < q := by
  refine ⟨?_, Nat.mod_lt _ (by omega)⟩
  rw [← h, Nat.gcd_comm p q, Nat.gcd_rec q p, Nat.gcd_comm]
theorem absX {w : World} {x : Int} (b1 : -4611686018427387904 < x) (b2 : x < 4611686018427387904) :
    Calls Tryz.prog 270 #[.int .i64 x] w (fun e w' => e = .returned (.int .u64 (x.natAbs : Int)) ∧ w = w') := by
  by_cases h : x < 0
  · have e : ((x.natAbs : Nat) : Int) = -x := by omega
    rw [e]; clear e; have h1 : 0 ≤ -x := (by omega); have h2 : -x < 4611686018427387904 := (by omega); go_enter Tryz.func270, Tryz.ntmps270; go_wp2; go_ret; exact ⟨rfl, rfl⟩
  · have e : ((x.natAbs : Nat) : Int) = x := by omega
    rw [e]; clear e; have h1 : 0 ≤ x := (by omega); go_enter Tryz.func270, Tryz.ntmps270; go_wp2; go_ret; exact ⟨rfl, rfl⟩
theorem mul64X {w : World} {x y : Nat} (hx : x < 18446744073709551616) (hy : y < 18446744073709551616) :
    Calls Tryz.prog 269 #[.int .u64 x, .int .u64 y] w (fun e w' => e = .returned (.tuple #[.int .u64 ((x * y / 18446744073709551616 : Nat) : Int), .int .u64 ((x * y % 18446744073709551616 : Nat) : Int)]) ∧ w = w') := by
  obtain ⟨bd, bt, bw, hhi⟩ := Lib.mul64_hi x y hx hy
  have ba := Lib.half_mul_le (a := x / 4294967296) (b := y / 4294967296) (by omega) (by omega)
  have bb := Lib.half_mul_le (a := x / 4294967296) (b := y % 4294967296) (by omega) (by omega)
  have bc := Lib.half_mul_le (a := x % 4294967296) (b := y / 4294967296) (by omega) (by omega)
  have ba' : x / 4294967296 * (y / 4294967296) < 18446744073709551616 := (by omega); have bb' : x / 4294967296 * (y % 4294967296) < 18446744073709551616 := (by omega); have bc' : x % 4294967296 * (y / 4294967296) < 18446744073709551616 := (by omega); have bh1 : x / 4294967296 * (y / 4294967296) + (x / 4294967296 * (y % 4294967296) + x % 4294967296 * (y % 4294967296) / 4294967296) / 4294967296 < 18446744073709551616 := (by omega); have bh : x / 4294967296 * (y / 4294967296) + (x / 4294967296 * (y % 4294967296) + x % 4294967296 * (y % 4294967296) / 4294967296) / 4294967296 + ((x / 4294967296 * (y % 4294967296) + x % 4294967296 * (y % 4294967296) / 4294967296) % 4294967296 + x % 4294967296 * (y / 4294967296)) / 4294967296 < 18446744073709551616 := (by omega); have HHI := Lib.hid hhi; clear hhi; go_enter Tryz.func269, Tryz.ntmps269; go_wp2; simp only [Mul64.maskN x hx, Mul64.maskN y hy, Mul64.divN, Mul64.mulN, Mul64.addN, Mul64.wrapN _ bd, Mul64.wrapN _ bb', Mul64.wrapN _ bt, Mul64.maskN _ bt, Mul64.wrapN _ bc', Mul64.wrapN _ bw, Mul64.wrapN _ ba', Mul64.wrapN _ bh1, Mul64.wrapN _ bh, Mul64.wrapM (x * y)]; rw [HHI.out]; go_ret2; exact ⟨rfl, rfl⟩
theorem gcd64X {w : World} {m n : Nat} (hm : m < 18446744073709551616) (hn : n < 18446744073709551616) :
    Calls Tryz.prog 271 #[.int .u64 m, .int .u64 n] w (fun e w' => e = .returned (.int .u64 (Nat.gcd m n : Nat)) ∧ Below w.heap.size w w') := by
  go_enter Tryz.func271, Tryz.ntmps271; go_wp2_with fail
  go_loopw [0, 1] (fun x y wx => ∃ p q : Nat, x = .int .u64 p ∧ y = .int .u64 q ∧ p < 18446744073709551616 ∧ q < 18446744073709551616 ∧ Hid (Below w.heap.size w wx) ∧ Hid (Nat.gcd p q = Nat.gcd m n)) (fun _ y _ => (intOf y).toNat)
  case atStart => exact ⟨m, n, rfl, rfl, hm, hn, Below.refl _ _, rfl⟩
  case round =>
    obtain ⟨p2, q2, rfl, rfl, hp2, hq2, hW2, hG2⟩ := hrel
    by_cases h0 : q2 = 0
    · have HE : Hid (p2 = Nat.gcd m n) := by show _ = _; rw [← hG2.out, h0, Nat.gcd_zero_right]
      have hb : (((q2 : Nat) : Int) != 0) = false := by rw [h0]; rfl
      clear h0; go_wp2; go_ret
      exact ⟨by rw [← HE.out]; rfl, hW2.out⟩
    · obtain ⟨g1, g2⟩ := gcd_step' h0 hG2.out; have HG := Lib.hid g1; have HL := Lib.hid g2
      have hb : (((q2 : Nat) : Int) != 0) = true := by rw [bne_iff_ne]; omega
      have hb0 : (((q2 : Nat) : Int) == 0) = false := by rw [beq_eq_false_iff_ne]; omega
      have e2 : (p2 : Int) % (q2 : Int) = ((p2 % q2 : Nat) : Int) := by rw [Int.natCast_emod]
      have E2 := Lib.hid e2
      have HQ1 : Hid ((1 : Int) ≤ (q2 : Int)) := by show _ ≤ _; omega
      have r1 : (0 : Int) ≤ (p2 : Int) % (q2 : Int) := by rw [e2]; exact Int.natCast_nonneg _
      have r2 : (p2 : Int) % (q2 : Int) < 18446744073709551616 := by rw [e2]; omega
      clear g1 g2 e2 h0; go_wp2_with fail; clear hb hb0
      have hq1 : (1 : Int) ≤ (q2 : Int) := HQ1.out
      have hq0 : ((q2 : Int) == 0) = false := by rw [beq_eq_false_iff_ne]; omega
      have hqz : ¬ (q2 = 0) := (by omega)
      go_quiet (fail)
      go_wp2_with fail
      go_roundw
      case rel => rw [E2.out]; exact ⟨q2, p2 % q2, rfl, rfl, hq2, Nat.lt_trans HL.out hq2, blw_drewN hW2.out _, HG⟩
      case measure => rw [E2.out]; have := HL.out; simp [intOf]; omega
theorem gcd64C {w : World} {m n g : Nat} (hm : m < 18446744073709551616) (hn : n < 18446744073709551616) (h : Hid (Nat.gcd m n = g)) :
    Calls Tryz.prog 271 #[.int .u64 m, .int .u64 n] w (fun e w' => e = .returned (.int .u64 (g : Nat)) ∧ Below w.heap.size w w') := by
  have := @gcd64X w m n hm hn
  rw [h.out] at this; exact this
def tOk (a b : Int) : Bool := decide ((a * b).natAbs < 4611686018427387904)
def tVal (a b : Int) : Int := if (a * b).natAbs < 4611686018427387904 then a * b else 0
theorem tVal_ok {a b : Int} (h : (a * b).natAbs < 4611686018427387904) : tVal a b = a * b ∧ tOk a b = true := ⟨if_pos h, by simp [tOk, h]⟩
theorem tVal_no {a b : Int} (h : ¬ (a * b).natAbs < 4611686018427387904) : tVal a b = 0 ∧ tOk a b = false := ⟨if_neg h, by simp [tOk, h]⟩
theorem sg_mul {a b : Int} (h : (decide (a < 0) != decide (b < 0)) = true) : a * b = -((a.natAbs * b.natAbs : Nat) : Int) := by
  rw [Int.natCast_mul]
  by_cases h1 : a < 0 <;> by_cases h2 : b < 0 <;> simp [h1, h2] at h
  · rw [show ((a.natAbs : Nat) : Int) = -a by omega, show ((b.natAbs : Nat) : Int) = b by omega, Int.neg_mul, Int.neg_neg]
  · rw [show ((a.natAbs : Nat) : Int) = a by omega, show ((b.natAbs : Nat) : Int) = -b by omega, Int.mul_neg, Int.neg_neg]
theorem sg_mul2 {a b : Int} (h : (decide (a < 0) != decide (b < 0)) = false) : a * b = ((a.natAbs * b.natAbs : Nat) : Int) := by
  rw [Int.natCast_mul]
  by_cases h1 : a < 0 <;> by_cases h2 : b < 0 <;> simp [h1, h2] at h
  · rw [show ((a.natAbs : Nat) : Int) = -a by omega, show ((b.natAbs : Nat) : Int) = -b by omega, Int.neg_mul_neg]
  · rw [show ((a.natAbs : Nat) : Int) = a by omega, show ((b.natAbs : Nat) : Int) = b by omega]
theorem timesX {w : World} {a b : Int} (a1 : -4611686018427387904 < a) (a2 : a < 4611686018427387904) (b1 : -4611686018427387904 < b) (b2 : b < 4611686018427387904) :
    Calls Tryz.prog 208 #[.int .i64 a, .int .i64 b] w (fun e w' => e = .returned (.tuple #[.int .i64 (tVal a b), .bool (tOk a b)]) ∧ w = w') := by
  have CM := Lib.hid (@mul64X w a.natAbs b.natAbs (by omega) (by omega)); have CA := Lib.hid (@absX w a a1 a2); have CB := Lib.hid (@absX w b b1 b2)
  have EM : (a * b).natAbs = a.natAbs * b.natAbs := Int.natAbs_mul a b
  by_cases h : a.natAbs * b.natAbs < 4611686018427387904
  · obtain ⟨e1, e2⟩ := tVal_ok (a := a) (b := b) (by omega); rw [e1, e2]; have d1 : a.natAbs * b.natAbs / 18446744073709551616 = 0 := (by omega); have d2 : a.natAbs * b.natAbs % 18446744073709551616 = a.natAbs * b.natAbs := (by omega); rw [d1, d2] at CM
    by_cases hs : (decide (a < 0) != decide (b < 0)) = true
    · rw [sg_mul hs]
      have hs2 : (decide (a < 0) == decide (b < 0)) = false := by simpa [bne] using hs
      have hs3 : (!(decide (a < 0) == decide (b < 0))) = true := hs
      clear EM e1 e2 d1 d2; obtain ⟨M, hM⟩ : ∃ M : Int, M = ((a.natAbs * b.natAbs : Nat) : Int) := ⟨_, rfl⟩; have m1 : 0 ≤ M := (by omega); have m2 : M < 4611686018427387904 := (by omega); rw [← hM] at CM ⊢; clear hM h; go_enter Tryz.func208, Tryz.ntmps208
      go_wp2_with (first | (go_at_call 270; first | ((with_reducible refine CA.out.mono ?_); rintro e w' ⟨rfl, rfl⟩) | ((with_reducible refine CB.out.mono ?_); rintro e w' ⟨rfl, rfl⟩)) | (go_at_call 269; (with_reducible refine CM.out.mono ?_); rintro e w' ⟨rfl, rfl⟩))
      go_ret2; exact ⟨rfl, rfl⟩
    · have hs' : (decide (a < 0) != decide (b < 0)) = false := by simpa using hs
      rw [sg_mul2 hs']
      have hs2 : (decide (a < 0) == decide (b < 0)) = true := by simpa [bne] using hs'
      have hs3 : (!(decide (a < 0) == decide (b < 0))) = false := hs'
      clear EM e1 e2 d1 d2 hs; obtain ⟨M, hM⟩ : ∃ M : Int, M = ((a.natAbs * b.natAbs : Nat) : Int) := ⟨_, rfl⟩; have m1 : 0 ≤ M := (by omega); have m2 : M < 4611686018427387904 := (by omega); rw [← hM] at CM ⊢; clear hM h; go_enter Tryz.func208, Tryz.ntmps208
      go_wp2_with (first | (go_at_call 270; first | ((with_reducible refine CA.out.mono ?_); rintro e w' ⟨rfl, rfl⟩) | ((with_reducible refine CB.out.mono ?_); rintro e w' ⟨rfl, rfl⟩)) | (go_at_call 269; (with_reducible refine CM.out.mono ?_); rintro e w' ⟨rfl, rfl⟩))
      go_ret2; exact ⟨rfl, rfl⟩
  · obtain ⟨e1, e2⟩ := tVal_no (a := a) (b := b) (by omega); rw [e1, e2]; clear EM e1 e2
    by_cases h2 : a.natAbs * b.natAbs < 18446744073709551616
    · have d1 : a.natAbs * b.natAbs / 18446744073709551616 = 0 := by omega
      have d2 : a.natAbs * b.natAbs % 18446744073709551616 = a.natAbs * b.natAbs := (by omega); rw [d1, d2] at CM; obtain ⟨M, hM⟩ : ∃ M : Int, M = ((a.natAbs * b.natAbs : Nat) : Int) := ⟨_, rfl⟩; have m1 : 4611686018427387904 ≤ M := (by omega); have m2 : M < 18446744073709551616 := (by omega); rw [← hM] at CM; clear d1 d2 hM h h2; go_enter Tryz.func208, Tryz.ntmps208
      go_wp2_with (first | (go_at_call 270; first | ((with_reducible refine CA.out.mono ?_); rintro e w' ⟨rfl, rfl⟩) | ((with_reducible refine CB.out.mono ?_); rintro e w' ⟨rfl, rfl⟩)) | (go_at_call 269; (with_reducible refine CM.out.mono ?_); rintro e w' ⟨rfl, rfl⟩))
      go_ret2; exact ⟨rfl, rfl⟩
    · have d1 : 0 < a.natAbs * b.natAbs / 18446744073709551616 := by omega
      generalize a.natAbs * b.natAbs / 18446744073709551616 = hi at *
      generalize a.natAbs * b.natAbs % 18446744073709551616 = lo at *
      have d2 : ((hi : Int) != 0) = true := by rw [bne_iff_ne]; omega
      clear h h2; go_enter Tryz.func208, Tryz.ntmps208
      go_wp2_with (first | (go_at_call 270; first | ((with_reducible refine CA.out.mono ?_); rintro e w' ⟨rfl, rfl⟩) | ((with_reducible refine CB.out.mono ?_); rintro e w' ⟨rfl, rfl⟩)) | (go_at_call 269; (with_reducible refine CM.out.mono ?_); rintro e w' ⟨rfl, rfl⟩))
      go_ret2; exact ⟨rfl, rfl⟩
end
end Go.Proofs.YtdlnoeegboapkaaGreatDoor
