/-
  Texts of this claim, joined: Con, Rat.
-/
import Derived.Test.YtdlnoeegboapkaaGreatDoorGI
/- Contracts of integers: package integer and the reference's, by walks. printed by a small program (mkcon.py). -/
namespace Go.Proofs.YtdlnoeegboapkaaGreatDoor
open Go.RowKit
set_option maxRecDepth 100000
set_option maxHeartbeats 40000000
set_option synthInstance.maxSize 100000
set_option synthInstance.maxHeartbeats 1000000
set_option linter.unusedVariables false
set_option linter.unusedSimpArgs false

theorem makeC {w : World} {g : Bool} {a : Option Addr} {l c n k : Nat} [h : CN w (.slice a l c) n k] : Calls Tryz.prog 119 #[.bool g, .slice a l c] w (SgRet w a l c (sgn g n) k) := by
  go_enter Tryz.func119, Tryz.ntmps119
  cases g
  all_goals
    go_wp2
    refine ret_bx rfl Tryz.underlying43 rfl (by kernel_rfl) rfl rfl rfl ?_
    exact SgRet.fin (by simp)
theorem signedC {w : World} {g : Bool} {a : Option Addr} {l c n k : Nat} [h : CN w (.slice a l c) n k] : Calls Tryz.prog 189 #[.bool g, .slice a l c] w (SgRet w a l c (sgn g n) k) := by
  go_enter Tryz.func189, Tryz.ntmps189
  cases g
  all_goals
    go_wp2
    refine ret_bx rfl Tryz.underlying27 rfl (by kernel_rfl) rfl rfl rfl ?_
    exact SgRet.fin (by simp)
theorem intNormC {w : World} {g1 : Bool} {a1 : Option Addr} {l1 c1 k1 : Nat} {x : Int} [h1 : CI w (.agg #[.bool g1, .slice a1 l1 c1]) x k1] (b : k1 ≤ 900000) :
    Calls Tryz.prog 215 #[.agg #[.bool g1, .slice a1 l1 c1]] w (CZRet w x (k1)) := by
  obtain ⟨m, r1, rfl⟩ := zi_of h1
  have i1 : CR w (.slice a1 l1 c1) m k1 := ⟨r1⟩
  clear r1
  cases g1
  all_goals
    go_enter Tryz.func215, Tryz.ntmps215
    go_wp2_with (first
    | (go_at_call 216; (with_reducible refine Calls.cN (normC (by omega)) ?_); intros))
    refine ret_bx rfl Tryz.underlying27 rfl (by kernel_rfl) rfl rfl rfl ?_
    exact CZRet.fin (hx := CZ.mkB (by simp)) rfl (by omega)
theorem intNegC {w : World} {g1 : Bool} {a1 : Option Addr} {l1 c1 k1 : Nat} {x : Int} [h1 : CI w (.agg #[.bool g1, .slice a1 l1 c1]) x k1] (b : k1 ≤ 900000) :
    Calls Tryz.prog 291 #[.agg #[.bool g1, .slice a1 l1 c1]] w (CZRet w (-x) (k1)) := by
  obtain ⟨m, r1, rfl⟩ := zi_of h1
  have i : CI w (.agg #[.bool (!g1), .slice a1 l1 c1]) (-sgn g1 m) k1 := ⟨⟨_, _, _, _, rfl, m, r1, by cases g1 <;> simp [sgn]⟩⟩
  clear r1
  cases g1
  all_goals
    simp only [Bool.not_false, Bool.not_true] at i
    go_enter Tryz.func291, Tryz.ntmps291
    go_wp2_with (first
    | (go_at_call 215; (with_reducible refine Calls.cZ (intNormC (by omega)) ?_); intros))
    refine ret_bx rfl Tryz.underlying27 rfl (by kernel_rfl) rfl rfl rfl ?_
    exact CZRet.fin rfl (by omega)
theorem intAddC {w : World} {g1 g2 : Bool} {a1 a2 : Option Addr} {l1 c1 l2 c2 k1 k2 : Nat} {x y : Int} [h1 : CI w (.agg #[.bool g1, .slice a1 l1 c1]) x k1] [h2 : CI w (.agg #[.bool g2, .slice a2 l2 c2]) y k2] (b : k1 ≤ 900000 ∧ k2 ≤ 900000) :
    Calls Tryz.prog 210 #[.agg #[.bool g1, .slice a1 l1 c1], .agg #[.bool g2, .slice a2 l2 c2]] w (CZRet w (x + y) (max k1 k2 + 1)) := by
  obtain ⟨m, r1, rfl⟩ := zi_of h1
  have i1 : CR w (.slice a1 l1 c1) m k1 := ⟨r1⟩
  obtain ⟨n, r2, rfl⟩ := zi_of h2
  have i2 : CR w (.slice a2 l2 c2) n k2 := ⟨r2⟩
  clear r1 r2
  by_cases hg : g1 = g2
  · subst hg
    have HE := Lib.hid (show sgn g1 (m + n) = sgn g1 m + sgn g1 n by cases g1 <;> simp [sgn] <;> omega)
    go_enter Tryz.func210, Tryz.ntmps210
    go_wp2_with fail
    refine rgn [w.heap.size + 1 + 1] [] fun hHeld => ?_
    refine tk 0 hHeld ?_
    refine tk 1 hHeld ?_
    refine tk 2 hHeld ?_
    refine tk 3 hHeld ?_
    refine tk 4 hHeld ?_
    refine tk 5 hHeld ?_
    refine st 6 fun K hK => ?_
    go_simp
    (with_reducible refine Calls.cN (addC (by omega)) ?_); intros
    refine hd hK ?_
    clear hHeld hK K
    intro hHeld
    refine st 7 fun K hK => ?_
    go_simp
    (with_reducible refine Calls.cSg (signedC) ?_); intros
    refine hd hK ?_
    clear hHeld hK K
    intro hHeld
    refine st 8 fun K hK => ?_
    go_simp
    refine hd hK ?_
    clear hHeld hK K
    intro hHeld
    refine dn ?_
    clear hHeld
    go_wp2
    refine ret_bx rfl Tryz.underlying27 rfl (by kernel_rfl) rfl rfl rfl ?_
    exact CZRet.fin HE.out (by omega)
  · have hg' : g2 = !g1 := by cases g1 <;> cases g2 <;> simp_all
    have hb0 : (g1 == g2) = false := by simpa using hg
    by_cases hnm : n ≤ m
    · have hd : decide (n ≤ m) = true := decide_eq_true hnm
      have HE : Hid (sgn g1 (m - n) = sgn g1 m + sgn g2 n) := by show _ = _; subst hg'; cases g1 <;> simp [sgn] <;> omega
      clear hg hg' hnm
      go_enter Tryz.func210, Tryz.ntmps210
      go_wp2_with (first
    | (go_at_call 273; (with_reducible refine Calls.cNB (natSubC (by omega)) ?_); intros)
    | (go_at_call 189; (with_reducible refine Calls.cSg (signedC) ?_); intros))
      refine ret_bx rfl Tryz.underlying27 rfl (by kernel_rfl) rfl rfl rfl ?_
      exact CZRet.fin HE.out (by omega)
    · have hd : decide (n ≤ m) = false := decide_eq_false hnm
      have HE : Hid (sgn g2 (n - m) = sgn g1 m + sgn g2 n) := by show _ = _; subst hg'; cases g1 <;> simp [sgn] <;> omega
      clear hg hg' hnm
      go_enter Tryz.func210, Tryz.ntmps210
      go_wp2_with (first
    | (go_at_call 273; (with_reducible refine Calls.cNB (natSubC (by omega)) ?_); intros)
    | (go_at_call 189; (with_reducible refine Calls.cSg (signedC) ?_); intros))
      refine ret_bx rfl Tryz.underlying27 rfl (by kernel_rfl) rfl rfl rfl ?_
      exact CZRet.fin HE.out (by omega)
theorem intMulC {w : World} {g1 g2 : Bool} {a1 a2 : Option Addr} {l1 c1 l2 c2 k1 k2 : Nat} {x y : Int} [h1 : CI w (.agg #[.bool g1, .slice a1 l1 c1]) x k1] [h2 : CI w (.agg #[.bool g2, .slice a2 l2 c2]) y k2] (b : k1 ≤ 900000 ∧ k2 ≤ 900000) :
    Calls Tryz.prog 211 #[.agg #[.bool g1, .slice a1 l1 c1], .agg #[.bool g2, .slice a2 l2 c2]] w (CZRet w (x * y) (k1 + k2)) := by
  obtain ⟨m, r1, rfl⟩ := zi_of h1
  have i1 : CR w (.slice a1 l1 c1) m k1 := ⟨r1⟩
  obtain ⟨n, r2, rfl⟩ := zi_of h2
  have i2 : CR w (.slice a2 l2 c2) n k2 := ⟨r2⟩
  clear r1 r2
  have HE := Lib.hid (show sgn (g1 != g2) (m * n) = sgn g1 m * sgn g2 n by cases g1 <;> cases g2 <;> simp [sgn, Int.neg_mul, Int.mul_neg])
  go_enter Tryz.func211, Tryz.ntmps211
  go_wp2_with fail
  refine rgn [w.heap.size + 1 + 1] [] fun hHeld => ?_
  refine tk 0 hHeld ?_
  refine tk 1 hHeld ?_
  refine tk 2 hHeld ?_
  refine tk 3 hHeld ?_
  refine tk 4 hHeld ?_
  refine tk 5 hHeld ?_
  refine tk 6 hHeld ?_
  refine tk 7 hHeld ?_
  refine tk 8 hHeld ?_
  refine st 9 fun K hK => ?_
  go_simp
  (with_reducible refine Calls.cN (mulC (by omega)) ?_); intros
  refine hd hK ?_
  clear hHeld hK K
  intro hHeld
  refine st 10 fun K hK => ?_
  go_simp
  (with_reducible refine Calls.cSg (signedC) ?_); intros
  refine hd hK ?_
  clear hHeld hK K
  intro hHeld
  refine st 11 fun K hK => ?_
  go_simp
  refine hd hK ?_
  clear hHeld hK K
  intro hHeld
  refine dn ?_
  clear hHeld
  go_wp2
  refine ret_bx rfl Tryz.underlying27 rfl (by kernel_rfl) rfl rfl rfl ?_
  exact CZRet.fin HE.out (by omega)
theorem intSignC {w : World} {g1 : Bool} {a1 : Option Addr} {l1 c1 k1 : Nat} {x : Int} [h1 : CI w (.agg #[.bool g1, .slice a1 l1 c1]) x k1] (b : k1 ≤ 900000) :
    Calls Tryz.prog 235 #[.agg #[.bool g1, .slice a1 l1 c1]] w (fun e w' => e = .returned (.int .i64 (isgn x)) ∧ Below w.heap.size w w') := by
  obtain ⟨m, r1, rfl⟩ := zi_of h1
  have i1 : CR w (.slice a1 l1 c1) m k1 := ⟨r1⟩
  clear r1
  by_cases hm : m = 0
  · have hb := nbits_eq0 hm
    have HE : Hid (isgn (sgn g1 m) = 0) := by subst hm; cases g1 <;> rfl
    clear hm
    go_enter Tryz.func235, Tryz.ntmps235
    go_wp2_with (first
    | (go_at_call 133; (with_reducible refine Calls.cS (bitsC (by omega)) ?_); intros))
    go_ret
    exact E.fin (by rw [HE.out]; rfl)
  · have hb := nbits_pos' hm
    have HE : Hid (isgn (sgn g1 m) = if g1 then -1 else 1) := by
      show _ = _
      unfold isgn
      cases g1 <;> simp [sgn] <;> omega
    clear hm
    cases g1
    all_goals
      go_enter Tryz.func235, Tryz.ntmps235
      go_wp2_with (first
      | (go_at_call 133; (with_reducible refine Calls.cS (bitsC (by omega)) ?_); intros))
      go_ret
      exact E.fin (by rw [HE.out]; rfl)
theorem int64C {w : World} {g1 : Bool} {a1 : Option Addr} {l1 c1 k1 : Nat} {x : Int} [h1 : CI w (.agg #[.bool g1, .slice a1 l1 c1]) x k1] :
    Calls Tryz.prog 251 #[.agg #[.bool g1, .slice a1 l1 c1]] w (fun e w' => e = .returned (int64V x) ∧ Below w.heap.size w w') := by
  obtain ⟨m, r1, rfl⟩ := zi_of h1
  have i1 : CR w (.slice a1 l1 c1) m k1 := ⟨r1⟩
  clear r1
  by_cases hm : m < 18446744073709551616
  · have hu := Lib.hid (uintV_lt hm)
    cases g1
    · have HI := Lib.hid (fun h : (m : Int) ≤ 9223372036854775807 => int64V_in (x := sgn false m) (by simp only [sgn_false]; omega))
      have HO := Lib.hid (fun h : ¬ (m : Int) ≤ 9223372036854775807 => int64V_out (x := sgn false m) (by simp only [sgn_false]; omega))
      go_enter Tryz.func251, Tryz.ntmps251
      go_wp2_with fail
      with_reducible refine Calls.cS uintC ?_
      rw [hu.out]
      by_cases h9 : (m : Int) ≤ 9223372036854775807
      · go_wp2
        go_ret2
        exact E.fin (by rw [HI.out h9]; rfl)
      · go_wp2
        go_ret2
        exact E.fin (by rw [HO.out h9]; rfl)
    · have HI := Lib.hid (fun h : (m : Int) ≤ 9223372036854775808 => int64V_in (x := sgn true m) (by simp only [sgn_true]; omega))
      have HO := Lib.hid (fun h : ¬ (m : Int) ≤ 9223372036854775808 => int64V_out (x := sgn true m) (by simp only [sgn_true]; omega))
      have HB := Lib.hid (fun h : (m : Int) ≤ 9223372036854775808 => wrap_back (m := m) (by omega))
      go_enter Tryz.func251, Tryz.ntmps251
      go_wp2_with fail
      with_reducible refine Calls.cS uintC ?_
      rw [hu.out]
      by_cases h9 : (m : Int) ≤ 9223372036854775808
      · go_wp2
        go_ret2
        exact E.fin (by rw [HI.out h9]; exact congrArg (fun z => Value.tuple #[.int .i64 z, .bool true]) (HB.out h9))
      · go_wp2
        go_ret2
        exact E.fin (by rw [HO.out h9]; rfl)
  · have hu := Lib.hid (uintV_ge (n := m) (by omega))
    have HO := Lib.hid (int64V_out (x := sgn g1 m) (by cases g1 <;> simp only [sgn_true, sgn_false] <;> omega))
    go_enter Tryz.func251, Tryz.ntmps251
    go_wp2_with fail
    with_reducible refine Calls.cS uintC ?_
    rw [hu.out]
    go_wp2
    go_ret2
    exact E.fin (by rw [HO.out]; rfl)
theorem fromIntC {w : World} {x : Int} (b : -9223372036854775808 ≤ x ∧ x < 9223372036854775808) : Calls Tryz.prog 183 #[.int .i64 x] w (CZRet w x 2) := by
  by_cases hx : x < 0
  · have HE := Lib.hid (wrap_negneg b.1 hx)
    have HD := Lib.hid (show true = decide (x < 0) by simp [hx])
    go_enter Tryz.func183, Tryz.ntmps183
    go_wp2_with fail
    rw [HE.out]
    with_reducible refine Calls.cN (fromUintC (by omega)) ?_
    intros
    go_wp2
    refine ret_bx rfl Tryz.underlying27 rfl (by kernel_rfl) rfl rfl rfl ?_
    exact CZRet.fin (hx := CZ.mkA (by omega) HD.out) rfl (by omega)
  · have hx0 : 0 ≤ x := by omega
    have HD := Lib.hid (show false = decide (x < 0) by simp; exact hx0)
    go_enter Tryz.func183, Tryz.ntmps183
    go_wp2_with fail
    with_reducible refine Calls.cN (fromUintC (by omega)) ?_
    intros
    go_wp2
    refine ret_bx rfl Tryz.underlying27 rfl (by kernel_rfl) rfl rfl rfl ?_
    exact CZRet.fin (hx := CZ.mkA (by omega) HD.out) rfl (by omega)
theorem numIntC {w : World} {x : Int} (b : -9223372036854775808 ≤ x ∧ x < 9223372036854775808) : Calls Tryz.prog 141 #[.int .i64 x] w (CZRet w x 2) := by
  by_cases hx : x < 0
  · have HE := Lib.hid (wrap_negneg b.1 hx)
    have HD := Lib.hid (show sgn true ((x.natAbs : Nat) : Int).natAbs = x by simp [sgn]; omega)
    go_enter Tryz.func141, Tryz.ntmps141
    go_wp2_with fail
    rw [HE.out]
    with_reducible refine Calls.cN (wordC (by omega)) ?_
    intros
    go_wp2_with (first
    | (go_at_call 119; (with_reducible refine Calls.cSg (makeC) ?_); intros))
    refine ret_bx rfl Tryz.underlying43 rfl (by kernel_rfl) rfl rfl rfl ?_
    exact CZRet.fin HD.out (by omega)
  · have hx0 : 0 ≤ x := by omega
    have HD := Lib.hid (show sgn false x.natAbs = x by simp [sgn]; omega)
    go_enter Tryz.func141, Tryz.ntmps141
    go_wp2_with fail
    with_reducible refine Calls.cN (wordC (by omega)) ?_
    intros
    go_wp2_with (first
    | (go_at_call 119; (with_reducible refine Calls.cSg (makeC) ?_); intros))
    refine ret_bx rfl Tryz.underlying43 rfl (by kernel_rfl) rfl rfl rfl ?_
    exact CZRet.fin HD.out (by omega)
theorem numSignC {w : World} {g1 : Bool} {a1 : Option Addr} {l1 c1 k1 : Nat} {x : Int} [h1 : CZ w (.agg #[.bool g1, .slice a1 l1 c1]) x k1] :
    Calls Tryz.prog 116 #[.agg #[.bool g1, .slice a1 l1 c1]] w (fun e w' => e = .returned (.int .i64 (isgn x)) ∧ Below w.heap.size w w') := by
  have HL := Lib.hid (zz_of h1).2.len
  have HG := Lib.hid (zz_of h1).1
  rcases isgn_cases x with ⟨hx, e⟩ | ⟨hx, e⟩ | ⟨hx, e⟩
  · have e1 : 0 < l1 := by rw [HL.out]; exact nf_len_pos (by omega)
    obtain rfl : g1 = true := by rw [HG.out]; simp [hx]
    clear HL HG hx h1
    go_enter Tryz.func116, Tryz.ntmps116
    go_wp2
    go_ret
    exact E.fin (by rw [e]; rfl)
  · obtain rfl : l1 = 0 := by rw [HL.out, hx]; rfl
    clear HL HG hx h1
    go_enter Tryz.func116, Tryz.ntmps116
    go_wp2
    go_ret
    exact E.fin (by rw [e]; rfl)
  · have e1 : 0 < l1 := by rw [HL.out]; exact nf_len_pos (by omega)
    obtain rfl : g1 = false := by rw [HG.out]; simp; omega
    clear HL HG hx h1
    go_enter Tryz.func116, Tryz.ntmps116
    go_wp2
    go_ret
    exact E.fin (by rw [e]; rfl)
theorem numMinusC {w : World} {g1 : Bool} {a1 : Option Addr} {l1 c1 k1 : Nat} {x : Int} [h1 : CZ w (.agg #[.bool g1, .slice a1 l1 c1]) x k1] :
    Calls Tryz.prog 265 #[.agg #[.bool g1, .slice a1 l1 c1]] w (CZRet w (-x) (k1)) := by
  have z1 := zz_of h1
  have i1 : CN w (.slice a1 l1 c1) x.natAbs k1 := ⟨z1.2⟩
  have HE : Hid (sgn (!g1) x.natAbs = -x) := by show _ = _; rw [z1.1]; exact sgn_not
  clear z1
  go_enter Tryz.func265, Tryz.ntmps265
  go_wp2_with (first
    | (go_at_call 119; (with_reducible refine Calls.cSg (makeC) ?_); intros))
  refine ret_bx rfl Tryz.underlying43 rfl (by kernel_rfl) rfl rfl rfl ?_
  exact CZRet.fin HE.out (by omega)
theorem numMulC {w : World} {g1 g2 : Bool} {a1 a2 : Option Addr} {l1 c1 l2 c2 k1 k2 : Nat} {x y : Int} [h1 : CZ w (.agg #[.bool g1, .slice a1 l1 c1]) x k1] [h2 : CZ w (.agg #[.bool g2, .slice a2 l2 c2]) y k2] (b : k1 ≤ 900000 ∧ k2 ≤ 900000) :
    Calls Tryz.prog 118 #[.agg #[.bool g1, .slice a1 l1 c1], .agg #[.bool g2, .slice a2 l2 c2]] w (CZRet w (x * y) (k1 + k2)) := by
  have z1 := zz_of h1
  have i1 : CN w (.slice a1 l1 c1) x.natAbs k1 := ⟨z1.2⟩
  have z2 := zz_of h2
  have i2 : CN w (.slice a2 l2 c2) y.natAbs k2 := ⟨z2.2⟩
  have HE : Hid (sgn (g1 != g2) (x.natAbs * y.natAbs) = x * y) := by show _ = _; rw [z1.1, z2.1]; exact sgn_mul
  clear z1 z2
  go_enter Tryz.func118, Tryz.ntmps118
  go_wp2_with fail
  refine rgn [w.heap.size + 1 + 1] [] fun hHeld => ?_
  refine tk 0 hHeld ?_
  refine tk 1 hHeld ?_
  refine tk 2 hHeld ?_
  refine tk 3 hHeld ?_
  refine tk 4 hHeld ?_
  refine tk 5 hHeld ?_
  refine tk 6 hHeld ?_
  refine tk 7 hHeld ?_
  refine tk 8 hHeld ?_
  refine st 9 fun K hK => ?_
  go_simp
  (with_reducible refine Calls.cN (numProductC (by omega)) ?_); intros
  refine hd hK ?_
  clear hHeld hK K
  intro hHeld
  refine st 10 fun K hK => ?_
  go_simp
  (with_reducible refine Calls.cSg (makeC) ?_); intros
  refine hd hK ?_
  clear hHeld hK K
  intro hHeld
  refine st 11 fun K hK => ?_
  go_simp
  refine hd hK ?_
  clear hHeld hK K
  intro hHeld
  refine dn ?_
  clear hHeld
  go_wp2
  refine ret_bx rfl Tryz.underlying43 rfl (by kernel_rfl) rfl rfl rfl ?_
  exact CZRet.fin HE.out (by omega)
theorem numAddC {w : World} {g1 g2 : Bool} {a1 a2 : Option Addr} {l1 c1 l2 c2 k1 k2 : Nat} {x y : Int} [h1 : CZ w (.agg #[.bool g1, .slice a1 l1 c1]) x k1] [h2 : CZ w (.agg #[.bool g2, .slice a2 l2 c2]) y k2] (b : k1 ≤ 900000 ∧ k2 ≤ 900000) :
    Calls Tryz.prog 117 #[.agg #[.bool g1, .slice a1 l1 c1], .agg #[.bool g2, .slice a2 l2 c2]] w (CZRet w (x + y) (max k1 k2 + 1)) := by
  have z1 := zz_of h1
  have i1 : CN w (.slice a1 l1 c1) x.natAbs k1 := ⟨z1.2⟩
  have z2 := zz_of h2
  have i2 : CN w (.slice a2 l2 c2) y.natAbs k2 := ⟨z2.2⟩
  by_cases hg : g1 = g2
  · subst hg
    have HE : Hid (sgn g1 (x.natAbs + y.natAbs) = x + y) := by show _ = _; have h := sgn_add (z1.1.symm.trans z2.1); rw [← z1.1] at h; exact h
    clear z1 z2
    go_enter Tryz.func117, Tryz.ntmps117
    go_wp2_with fail
    refine rgn [w.heap.size + 1 + 1] [] fun hHeld => ?_
    refine tk 0 hHeld ?_
    refine tk 1 hHeld ?_
    refine tk 2 hHeld ?_
    refine tk 3 hHeld ?_
    refine tk 4 hHeld ?_
    refine tk 5 hHeld ?_
    refine st 6 fun K hK => ?_
    go_simp
    (with_reducible refine Calls.cN (numSumC (by omega)) ?_); intros
    refine hd hK ?_
    clear hHeld hK K
    intro hHeld
    refine st 7 fun K hK => ?_
    go_simp
    (with_reducible refine Calls.cSg (makeC) ?_); intros
    refine hd hK ?_
    clear hHeld hK K
    intro hHeld
    refine st 8 fun K hK => ?_
    go_simp
    refine hd hK ?_
    clear hHeld hK K
    intro hHeld
    refine dn ?_
    clear hHeld
    go_wp2
    refine ret_bx rfl Tryz.underlying43 rfl (by kernel_rfl) rfl rfl rfl ?_
    exact CZRet.fin HE.out (by omega)
  · have hb0 : (g1 == g2) = false := by simpa using hg
    rw [z1.1, z2.1] at hg
    by_cases hl : x.natAbs < y.natAbs
    · have HE : Hid (sgn g2 (y.natAbs - x.natAbs) = x + y) := by show _ = _; rw [z2.1]; have := @sgn_less y x (Ne.symm hg) (by omega); rw [Int.add_comm]; exact this
      have hc := cmpN_ltB hl
      have hle : x.natAbs ≤ y.natAbs := by omega
      clear z1 z2 hg hl
      go_enter Tryz.func117, Tryz.ntmps117
      go_wp2_with (first
    | (go_at_call 139; (with_reducible refine Calls.cE (numCmpC) ?_); intros))
      refine rgn [w.heap.size + 1 + 1] [] fun hHeld => ?_
      refine tk 0 hHeld ?_
      refine tk 1 hHeld ?_
      refine tk 2 hHeld ?_
      refine tk 3 hHeld ?_
      refine tk 4 hHeld ?_
      refine tk 5 hHeld ?_
      refine st 6 fun K hK => ?_
      go_simp
      (with_reducible refine Calls.cN (numLessC (by omega) hle) ?_); intros
      refine hd hK ?_
      clear hHeld hK K
      intro hHeld
      refine st 7 fun K hK => ?_
      go_simp
      (with_reducible refine Calls.cSg (makeC) ?_); intros
      refine hd hK ?_
      clear hHeld hK K
      intro hHeld
      refine st 8 fun K hK => ?_
      go_simp
      refine hd hK ?_
      clear hHeld hK K
      intro hHeld
      refine dn ?_
      clear hHeld
      go_wp2
      refine ret_bx rfl Tryz.underlying43 rfl (by kernel_rfl) rfl rfl rfl ?_
      exact CZRet.fin HE.out (by omega)
    · have hle : y.natAbs ≤ x.natAbs := by omega
      have HE : Hid (sgn g1 (x.natAbs - y.natAbs) = x + y) := by show _ = _; rw [z1.1]; exact sgn_less hg hle
      have hc := cmpN_geB hle
      clear z1 z2 hg hl
      go_enter Tryz.func117, Tryz.ntmps117
      go_wp2_with (first
    | (go_at_call 139; (with_reducible refine Calls.cE (numCmpC) ?_); intros))
      refine rgn [w.heap.size + 1 + 1] [] fun hHeld => ?_
      refine tk 0 hHeld ?_
      refine tk 1 hHeld ?_
      refine tk 2 hHeld ?_
      refine tk 3 hHeld ?_
      refine tk 4 hHeld ?_
      refine tk 5 hHeld ?_
      refine st 6 fun K hK => ?_
      go_simp
      (with_reducible refine Calls.cN (numLessC (by omega) hle) ?_); intros
      refine hd hK ?_
      clear hHeld hK K
      intro hHeld
      refine st 7 fun K hK => ?_
      go_simp
      (with_reducible refine Calls.cSg (makeC) ?_); intros
      refine hd hK ?_
      clear hHeld hK K
      intro hHeld
      refine st 8 fun K hK => ?_
      go_simp
      refine hd hK ?_
      clear hHeld hK K
      intro hHeld
      refine dn ?_
      clear hHeld
      go_wp2
      refine ret_bx rfl Tryz.underlying43 rfl (by kernel_rfl) rfl rfl rfl ?_
      exact CZRet.fin HE.out (by omega)
theorem numCompareC {w : World} {g1 g2 : Bool} {a1 a2 : Option Addr} {l1 c1 l2 c2 k1 k2 : Nat} {x y : Int} [h1 : CZ w (.agg #[.bool g1, .slice a1 l1 c1]) x k1] [h2 : CZ w (.agg #[.bool g2, .slice a2 l2 c2]) y k2] (b : k1 ≤ 900000 ∧ k2 ≤ 900000) :
    Calls Tryz.prog 277 #[.agg #[.bool g1, .slice a1 l1 c1], .agg #[.bool g2, .slice a2 l2 c2]] w (fun e w' => e = .returned (.int .i64 (icmp x y)) ∧ Below w.heap.size w w') := by
  have HE := Lib.hid (show isgn (x + -y) = icmp x y by unfold isgn icmp; repeat' split; all_goals omega)
  go_enter Tryz.func277, Tryz.ntmps277
  go_wp2_with fail
  refine rgn [] [] fun hHeld => ?_
  refine tk 0 hHeld ?_
  refine tk 1 hHeld ?_
  refine st 2 fun K hK => ?_
  go_simp
  (with_reducible refine Calls.cZ (numMinusC) ?_); intros
  refine hd hK ?_
  clear hHeld hK K
  intro hHeld
  refine st 3 fun K hK => ?_
  go_simp
  (with_reducible refine Calls.cZ (numAddC (by omega)) ?_); intros
  refine hd hK ?_
  clear hHeld hK K
  intro hHeld
  refine st 4 fun K hK => ?_
  go_simp
  (with_reducible refine Calls.cE (numSignC) ?_); intros
  refine hd hK ?_
  clear hHeld hK K
  intro hHeld
  refine tk 5 hHeld ?_
  refine dn ?_
  clear hHeld
  go_wp2
  go_ret
  exact E.fin (by rw [HE.out]; rfl)
theorem refIC {w : World} {g1 : Bool} {a1 : Option Addr} {l1 c1 k1 : Nat} {x : Int} [h1 : CI w (.agg #[.bool g1, .slice a1 l1 c1]) x k1] (b : k1 ≤ 900000) :
    Calls Tryz.prog 120 #[.agg #[.bool g1, .slice a1 l1 c1]] w (CZRet w x (k1)) := by
  obtain ⟨m, r1, rfl⟩ := zi_of h1
  have i1 : CR w (.slice a1 l1 c1) m k1 := ⟨r1⟩
  clear r1
  go_enter Tryz.func120, Tryz.ntmps120
  go_wp2_with fail
  refine rgn [w.heap.size + 1] [] fun hHeld => ?_
  refine tk 0 hHeld ?_
  refine tk 1 hHeld ?_
  refine tk 2 hHeld ?_
  refine tk 3 hHeld ?_
  refine st 4 fun K hK => ?_
  go_simp
  (with_reducible refine Calls.cN (refNC (by omega)) ?_); intros
  refine hd hK ?_
  clear hHeld hK K
  intro hHeld
  refine st 5 fun K hK => ?_
  go_simp
  (with_reducible refine Calls.cSg (makeC) ?_); intros
  refine hd hK ?_
  clear hHeld hK K
  intro hHeld
  refine st 6 fun K hK => ?_
  go_simp
  refine hd hK ?_
  clear hHeld hK K
  intro hHeld
  refine dn ?_
  clear hHeld
  go_wp2
  refine ret_bx rfl Tryz.underlying43 rfl (by kernel_rfl) rfl rfl rfl ?_
  exact CZRet.fin rfl (by omega)
theorem toIC {w : World} {g1 : Bool} {a1 : Option Addr} {l1 c1 k1 : Nat} {x : Int} [h1 : CZ w (.agg #[.bool g1, .slice a1 l1 c1]) x k1] (b : k1 ≤ 900000) :
    Calls Tryz.prog 101 #[.agg #[.bool g1, .slice a1 l1 c1]] w (CZRet w x (k1)) := by
  have z1 := zz_of h1
  have i1 : CN w (.slice a1 l1 c1) x.natAbs k1 := ⟨z1.2⟩
  have HG := Lib.hid z1.1
  clear z1
  go_enter Tryz.func101, Tryz.ntmps101
  go_wp2_with fail
  refine rgn [w.heap.size + 1] [] fun hHeld => ?_
  refine tk 0 hHeld ?_
  refine tk 1 hHeld ?_
  refine tk 2 hHeld ?_
  refine tk 3 hHeld ?_
  refine st 4 fun K hK => ?_
  go_simp
  (with_reducible refine Calls.cN (refToNC (by omega)) ?_); intros
  refine hd hK ?_
  clear hHeld hK K
  intro hHeld
  refine tk 5 hHeld ?_
  refine st 6 fun K hK => ?_
  go_simp
  refine hd hK ?_
  clear hHeld hK K
  intro hHeld
  refine dn ?_
  clear hHeld
  go_wp2
  refine ret_bx rfl Tryz.underlying27 rfl (by kernel_rfl) rfl rfl rfl ?_
  exact CZRet.fin (hx := CZ.mkA rfl HG.out) rfl (by omega)
theorem sameIC {w : World} {g1 g2 : Bool} {a1 a2 : Option Addr} {l1 c1 l2 c2 k1 k2 : Nat} {x y : Int} [h1 : CZ w (.agg #[.bool g1, .slice a1 l1 c1]) x k1] [h2 : CZ w (.agg #[.bool g2, .slice a2 l2 c2]) y k2] (e : x = y) :
    Calls Tryz.prog 99 #[.agg #[.bool g1, .slice a1 l1 c1], .agg #[.bool g2, .slice a2 l2 c2]] w (fun e w' => e = .returned (.bool true) ∧ Below w.heap.size w w') := by
  subst e
  have z1 := zz_of h1
  have z2 := zz_of h2
  have i1 : CN w (.slice a1 l1 c1) x.natAbs k1 := ⟨z1.2⟩
  have i2 : CN w (.slice a2 l2 c2) x.natAbs k2 := ⟨z2.2⟩
  obtain rfl : g2 = g1 := by rw [z1.1, z2.1]
  clear z1 z2
  go_enter Tryz.func99, Tryz.ntmps99
  go_wp2_with (first
    | (go_at_call 100; (with_reducible refine Calls.cE (sameNC rfl) ?_); intros))
  go_ret
  exact E.fin rfl
end Go.Proofs.YtdlnoeegboapkaaGreatDoor

/- Plain laws on rational numbers: numerator and denominator of sums, products, quotients; the greatest common divisor of two rational numbers. No program is in sight here. -/
namespace Go.Proofs.YtdlnoeegboapkaaGreatDoor

theorem mk_den (z : Int) {m : Nat} (hm : m ≠ 0) : (mkRat z m).den = m / Nat.gcd z.natAbs m := by
  rw [Rat.den_mkRat, if_neg hm, Nat.gcd_comm]
theorem mk_num (z : Int) {m : Nat} (hm : m ≠ 0) : (mkRat z m).num = z / ((Nat.gcd z.natAbs m : Nat) : Int) := by
  rw [Rat.num_mkRat, if_neg hm, Nat.gcd_comm]
theorem int_div_abs (z : Int) (g : Nat) (h : g ∣ z.natAbs) : (z / (g : Int)).natAbs = z.natAbs / g := by
  rcases Nat.eq_zero_or_pos g with h0 | h0
  · subst h0; simp
  · obtain ⟨k, hk⟩ := h
    have : z = (g : Int) * k ∨ z = -((g : Int) * k) := by
      rcases Int.natAbs_eq z with e | e
      · left; rw [e, hk]; simp
      · right; rw [e, hk]; simp
    have hg : (g : Int) ≠ 0 := by omega
    rw [hk, Nat.mul_div_cancel_left _ h0]
    rcases this with e | e
    · rw [e, Int.mul_ediv_cancel_left _ hg]; simp
    · rw [e, show -((g : Int) * k) = (g : Int) * (-(k : Int)) by simp [Int.mul_neg], Int.mul_ediv_cancel_left _ hg]; simp
theorem mk_abs (z : Int) {m : Nat} (hm : m ≠ 0) : (mkRat z m).num.natAbs = z.natAbs / Nat.gcd z.natAbs m := by
  rw [mk_num z hm, int_div_abs _ _ (Nat.gcd_dvd_left _ _)]
theorem mk_neg (z : Int) {m : Nat} (hm : m ≠ 0) : (mkRat z m).num < 0 ↔ z < 0 := by
  rw [mk_num z hm]
  have hg : 0 < Nat.gcd z.natAbs m := Nat.gcd_pos_of_pos_right _ (Nat.pos_of_ne_zero hm)
  constructor
  · intro h
    rcases Int.lt_or_le z 0 with h' | h'
    · exact h'
    · have := Int.ediv_nonneg h' (show (0 : Int) ≤ ((Nat.gcd z.natAbs m : Nat) : Int) by omega); omega
  · intro h
    exact Int.ediv_neg_of_neg_of_pos h (by omega)
theorem mk_eq0 (z : Int) {m : Nat} (hm : m ≠ 0) : mkRat z m = 0 ↔ z = 0 := by
  rw [Rat.mkRat_eq_zero hm]
theorem mk_zero (m : Nat) : mkRat 0 m = 0 := by simp
theorem mk_one (z : Int) : mkRat z 1 = (z : Rat) := Rat.mkRat_one z
theorem rat_add_mk (x y : Rat) : x + y = mkRat (x.num * (y.den : Int) + y.num * (x.den : Int)) (x.den * y.den) := by
  rw [Rat.add_def, Rat.normalize_eq_mkRat]
theorem rat_mul_mk (x y : Rat) : x * y = mkRat (x.num * y.num) (x.den * y.den) := by
  rw [Rat.mul_def, Rat.normalize_eq_mkRat]
theorem rat_add1 {x y : Rat} (hx : x.den = 1) (hy : y.den = 1) : x + y = ((x.num + y.num : Int) : Rat) := by
  rw [rat_add_mk, hx, hy, ← mk_one]; simp
theorem rat_mul1 {x y : Rat} (hx : x.den = 1) (hy : y.den = 1) : x * y = ((x.num * y.num : Int) : Rat) := by
  rw [rat_mul_mk, hx, hy, ← mk_one]
theorem rat_inv_mk (x : Rat) (h : x ≠ 0) : x⁻¹ = mkRat (if x.num < 0 then -(x.den : Int) else (x.den : Int)) x.num.natAbs := by
  have h0 : x.num ≠ 0 := fun e => h (Rat.num_eq_zero.1 e)
  rw [Rat.inv_def]
  split
  · rename_i hn
    rw [show x.num = -((x.num.natAbs : Nat) : Int) by omega, Rat.divInt_neg']
    rw [Rat.divInt_ofNat]; simp
  · rw [show x.num = ((x.num.natAbs : Nat) : Int) by omega, Rat.divInt_ofNat]; simp
theorem rat_div_mk (x y : Rat) (h : y ≠ 0) : x / y = mkRat (x.num * (if y.num < 0 then -(y.den : Int) else (y.den : Int))) (x.den * y.num.natAbs) := by
  have h0 : y.num ≠ 0 := fun e => h (Rat.num_eq_zero.1 e)
  rw [Rat.div_def, rat_inv_mk y h]
  conv => lhs; rw [← Rat.mkRat_self x]
  rw [Rat.mkRat_mul_mkRat]
theorem inv_num (x : Rat) : (x⁻¹).num = x.num.sign * x.den := Rat.num_inv x
theorem inv_den {x : Rat} (h : x.num ≠ 0) : (x⁻¹).den = x.num.natAbs := by rw [Rat.den_inv, if_neg h]
/-- The sign of a rational number. -/
def rsgn (x : Rat) : Int := if x.num < 0 then -1 else if x.num = 0 then 0 else 1
/-- How two rational numbers compare. -/
def rcmp (x y : Rat) : Int := rsgn (x - y)
theorem den_pos' (x : Rat) : 0 < x.den := Nat.pos_of_ne_zero x.den_nz
theorem sub_same_den {x y : Rat} (h : x.den = y.den) : rcmp x y = if x.num < y.num then -1 else if x.num = y.num then 0 else 1 := by
  unfold rcmp rsgn
  have hd := den_pos' y
  have e : x - y = mkRat ((x.num - y.num) * (y.den : Int)) (y.den * y.den) := by
    rw [Rat.sub_eq_add_neg, rat_add_mk, Rat.neg_num, Rat.neg_den, h]
    congr 1; rw [Int.sub_mul, Int.neg_mul]; omega
  have hdd : y.den * y.den ≠ 0 := Nat.mul_ne_zero (by omega) (by omega)
  rw [e]
  have h1 := mk_neg ((x.num - y.num) * (y.den : Int)) hdd
  have h2 := mk_eq0 ((x.num - y.num) * (y.den : Int)) hdd
  rw [← Rat.num_eq_zero] at h2
  have h3 : (x.num - y.num) * (y.den : Int) < 0 ↔ x.num < y.num := by
    constructor
    · intro h'
      rcases Int.lt_or_le x.num y.num with h'' | h''
      · exact h''
      · have := Int.mul_nonneg (show 0 ≤ x.num - y.num by omega) (show (0 : Int) ≤ y.den by omega); omega
    · intro h'; exact Int.mul_neg_of_neg_of_pos (by omega) (by omega)
  have h4 : (x.num - y.num) * (y.den : Int) = 0 ↔ x.num = y.num := by
    rw [Int.mul_eq_zero]; omega
  simp only [h1, h2, h3, h4]
theorem rsgn_zero {x : Rat} : rsgn x = 0 ↔ x = 0 := by
  unfold rsgn
  rw [← Rat.num_eq_zero]
  split
  · omega
  · split <;> omega
theorem rsgn_neg {x : Rat} : rsgn x < 0 ↔ x < 0 := by
  unfold rsgn
  rw [show x < 0 ↔ x.num < 0 by rw [← Rat.not_le, ← Rat.num_nonneg]; omega]
  split
  · omega
  · split <;> omega
theorem rsgn_pos {x : Rat} : 0 < rsgn x ↔ 0 < x := by
  unfold rsgn
  have e : 0 < x ↔ 0 < x.num := by
    have := @Rat.neg_le_neg_iff 0 x
    rw [show (-0 : Rat) = 0 from rfl] at this
    rw [← Rat.not_le, ← this, ← Rat.num_nonneg, Rat.neg_num]; omega
  rw [e]
  split
  · omega
  · split <;> omega
theorem rsgn_cases (x : Rat) : (rsgn x = -1 ∧ x < 0) ∨ (rsgn x = 0 ∧ x = 0) ∨ (rsgn x = 1 ∧ 0 < x) := by
  have h1 := @rsgn_neg x
  have h2 := @rsgn_zero x
  have h3 := @rsgn_pos x
  have h4 : rsgn x = -1 ∨ rsgn x = 0 ∨ rsgn x = 1 := by unfold rsgn; split; (left; rfl); split; (right; left; rfl); (right; right; rfl)
  rcases h4 with e | e | e
  · left; exact ⟨e, h1.1 (by omega)⟩
  · right; left; exact ⟨e, h2.1 e⟩
  · right; right; exact ⟨e, h3.1 (by omega)⟩
/-- The greatest number of which both are integer multiples. -/
def rgcd (x y : Rat) : Rat := mkRat ((Nat.gcd (x.num.natAbs * y.den) (y.num.natAbs * x.den) : Nat) : Int) (x.den * y.den)
theorem rgcd1 {x y : Rat} (hx : x.den = 1) (hy : y.den = 1) : rgcd x y = ((Nat.gcd x.num.natAbs y.num.natAbs : Nat) : Int) := by
  unfold rgcd; rw [hx, hy, ← mk_one]; simp
theorem floor_eq (x : Rat) : x.floor = x.num / (x.den : Int) := Rat.floor_def x
end Go.Proofs.YtdlnoeegboapkaaGreatDoor
