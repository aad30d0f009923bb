/-
  Texts of this claim, joined: NumGcd, Int3, Con0, Con, Rat.
-/
import Derived.Test.YtdlnoeegboapkaaGreatDoorCG
import Derived.Test.YtdlnoeegboapkaaGreatDoorCH
/- The reference's Common and Root (package bspregionnum). -/
namespace Go.Proofs.YtdlnoeegboapkaaGreatDoor
open Go.RowKit
set_option maxRecDepth 100000
set_option maxHeartbeats 40000000
set_option synthInstance.maxSize 100000
set_option synthInstance.maxHeartbeats 1000000

theorem gcd_len {m n k : Nat} (h1 : (nf m).length ≤ k) (h2 : (nf n).length ≤ k) : (nf (Nat.gcd m n)).length ≤ k := by
  by_cases h0 : m = 0
  · subst h0; rw [Nat.gcd_zero_left]; exact h2
  · exact len_le (Nat.gcd_le_left _ (Nat.pos_of_ne_zero h0)) h1
theorem commonW {w : World} {u v : Value} {m n k1 k2 : Nat} (hu : Nn w u m k1) (hv : Nn w v n k2) (hk1 : k1 ≤ 200000) (hk2 : k2 ≤ 200000) :
    Calls Tryz.prog 138 #[u, v] w (RetN w (Nat.gcd m n) (max k1 k2)) := by
  obtain ⟨a1, c1, rfl⟩ := hu.1.sl
  obtain ⟨a2, c2, rfl⟩ := hv.1.sl
  have hl1 := Nat.le_trans hu.2 (Nat.le_max_left k1 k2)
  have hl2 := Nat.le_trans hv.2 (Nat.le_max_right k1 k2)
  have hK : max k1 k2 ≤ 200000 := by omega
  have HGL := Lib.hid (gcd_len hl1 hl2)
  have HL1 := Lib.hid hl1
  have HL2 := Lib.hid hl2
  have CW := Lib.hid (numWord2W hu)
  have CV := Lib.hid (fun (W : World) (h : Below w.heap.size w W) => numWord2W (hv.keep h))
  have HU := Lib.hid hu.1
  have HV := Lib.hid hv.1
  clear hu hv hl1 hl2 hk1 hk2
  generalize max k1 k2 = K at *
  by_cases hs : m < 18446744073709551616 ∧ n < 18446744073709551616
  · obtain ⟨hm1, hn1⟩ := hs
    have HU1 := Lib.hid (uintV_lt hm1)
    have HU2 := Lib.hid (uintV_lt hn1)
    go_enter Tryz.func138, Tryz.ntmps138
    go_wp2_with fail
    refine CW.out.mono ?_
    rintro e w1 ⟨rfl, j1, rfl⟩
    rw [HU1.out]
    go_wp2_with fail
    refine (CV.out _ (blw_drewN (Below.refl _ _) _)).mono ?_
    rintro e w2 ⟨rfl, j2, rfl⟩
    rw [HU2.out]
    have B1 := Lib.hid (show Below w.heap.size w (w.drewN (j1 + j2)) from blw_drewN (Below.refl _ _) _)
    go_wp2_with fail
    generalize w.drewN (j1 + j2) = w1 at *
    go_loopw [5, 7] (fun x y wx => ∃ a b : Int, x = .int .u64 a ∧ y = .int .u64 b ∧ 0 ≤ a ∧ a < 18446744073709551616 ∧ 0 ≤ b ∧ b < 18446744073709551616 ∧ Hid (Below w.heap.size w wx) ∧ Hid (Nat.gcd a.toNat b.toNat = Nat.gcd m n)) (fun _ y _ => (intOf y).toNat)
    case atStart => exact ⟨(m : Int), (n : Int), rfl, rfl, by omega, by omega, by omega, by omega, B1, rfl⟩
    case round =>
      obtain ⟨a, b, rfl, rfl, ha0, ha, hb0, hb, hW2, hG2⟩ := hrel
      by_cases h0 : b = 0
      · have HE : Hid (a.toNat = Nat.gcd m n) := by show _ = _; rw [← hG2.out, h0]; simp
        subst h0
        go_wp2_with fail
        refine (wordZ _ _ a.toNat (by omega) (by omega)).mono ?_
        rintro e w4 ⟨z, rfl, hz, b4⟩
        go_wp2
        go_ret
        rw [HE.out] at hz
        exact .mk (.of_own hz HGL.out) (blw_trans hW2.out b4)
      · obtain ⟨g1, g2⟩ := gcd_step (by omega : b.toNat ≠ 0) hG2.out
        have HG := Lib.hid g1
        have HL := Lib.hid g2
        have hb1 : 0 < b := by omega
        have e2 : a % b = ((a.toNat % b.toNat : Nat) : Int) := by rw [Int.natCast_emod, Int.toNat_of_nonneg ha0, Int.toNat_of_nonneg hb0]
        have E2 := Lib.hid e2
        have e3 : (a % b).toNat = a.toNat % b.toNat := by rw [e2]; rfl
        have E3 := Lib.hid e3
        clear g1 g2 e2 e3 h0
        go_wp2_with fail
        have hq1 : (1 : Int) ≤ b := by omega
        have hq0 : (b == 0) = false := by rw [beq_eq_false_iff_ne]; omega
        have hqz : ¬ (b = 0) := by omega
        have m1 := Int.emod_nonneg a hqz
        have m2 := Int.emod_lt_of_pos a hb1
        have em : a.tmod b = a % b := Int.tmod_eq_emod_of_nonneg ha0
        go_quiet (fail)
        go_wp2_with fail
        go_roundw
        case rel => exact ⟨b, a % b, rfl, by first | rfl | rw [em], by omega, by omega, m1, by omega, blw_drewN hW2.out _, by show _ = _; rw [E3.out]; exact HG.out⟩
        case measure => simp only [intOf]; first | (rw [E3.out]; exact HL.out) | (rw [em, E3.out]; exact HL.out)
  · have hs : 18446744073709551616 ≤ m ∨ (m < 18446744073709551616 ∧ 18446744073709551616 ≤ n) := by omega
    go_enter Tryz.func138, Tryz.ntmps138
    rcases hs with hs | ⟨hs1, hs2⟩
    · have HU1 := Lib.hid (uintV_ge hs)
      clear hs
      go_wp2_with fail
      refine CW.out.mono ?_
      rintro e w1 ⟨rfl, j1, rfl⟩
      rw [HU1.out]
      have B1 := Lib.hid (show Below w.heap.size w (w.drewN j1) from blw_drewN (Below.refl _ _) _)
      generalize w.drewN j1 = w1 at *
      go_wp2_with fail
      go_loopw [0, 1] (fun x y wr => ∃ p q : Nat, Hid (∃ a l c, x = .slice a l c ∧ Rd wr (.slice a l c) (nf p)) ∧ Hid (∃ a l c, y = .slice a l c ∧ Rd wr (.slice a l c) (nf q)) ∧ Hid (Below w.heap.size w wr) ∧ Hid (Nat.gcd p q = Nat.gcd m n) ∧ Hid ((nf p).length ≤ K) ∧ Hid ((nf q).length ≤ K)) (fun _ y wr => rdVal wr y)
      case atStart => exact ⟨m, n, ⟨_, _, _, rfl, HU.out.keep B1.out⟩, ⟨_, _, _, rfl, HV.out.keep B1.out⟩, B1, rfl, HL1, HL2⟩
      case round =>
        obtain ⟨p, q, hP, hQ, hW, hG, hlp, hlq⟩ := hrel
        obtain ⟨ax, lx, cx, rfl, hx⟩ := hP.out
        obtain ⟨ay, ly, cy, rfl, hy⟩ := hQ.out
        have HX := Lib.hid hx
        have HY := Lib.hid hy
        have hly := hy.len
        clear hP hQ hx hy
        by_cases h0 : q = 0
        · have HE : Hid (p = Nat.gcd m n) := by show _ = _; rw [← hG.out, h0, Nat.gcd_zero_right]
          have hz : ¬ ((0 : Int) < (ly : Int)) := by rw [hly, h0]; decide
          have HLP := Lib.hid hlp.out
          clear h0 hly
          go_wp2_with (at_builtin; go_loud (refine app_u32 _ rfl (.tmp 42) (.tmp 43) 41 41 rfl Tryz.underlying41 Tryz.underlying41 wr.heap.size _ _ [] (nf p) rfl rfl (own_lit wr [] dig_nil (by simp) _ rfl) (HX.out.keep (blw_one _ _)) (by have := HLP.out; simp; omega) (by simp) ?_); intro v1 w3 o1 g1 _)
          have B3 := own_grown (own_lit wr [] dig_nil (by simp) _ rfl) (blw_one _ _) g1 (Nat.le_refl _)
          go_ret
          rw [List.nil_append, HE.out] at o1
          exact .mk (.of_own o1 HGL.out) (blw_trans hW.out B3)
        · have hz : (0 : Int) < (ly : Int) := by rw [hly]; have := nf_len_pos h0; omega
          obtain ⟨g1, g2⟩ := gcd_step h0 hG.out
          have HG := Lib.hid g1
          have HL := Lib.hid g2
          have CD := Lib.hid (divideW (w := wr) ⟨HX.out, hlp.out⟩ ⟨HY.out, hlq.out⟩ h0 hK)
          clear g1 g2 h0 hly
          go_wp2_with fail
          refine CD.out.mono ?_
          rintro e w3 ⟨aq, lq, cq, ar, lr, cr, rfl, _, hr, b3⟩
          have HR := Lib.hid hr.1
          have hV := rdVal_eq HY.out
          have hV2 := rdVal_eq hr.1
          rw [val_nf] at hV hV2
          have HV1 := Lib.hid hV
          have HV2 := Lib.hid hV2
          have HB3 := Lib.hid b3
          clear hr hV hV2 b3
          go_wp2_with fail
          go_roundw
          case rel => exact ⟨q, p % q, ⟨_, _, _, rfl, HY.out.keep HB3.out⟩, ⟨_, _, _, rfl, HR.out⟩, blw_trans hW.out HB3.out, HG, hlq, len_le (Nat.mod_le _ _) hlp.out⟩
          case measure => rw [HV1.out, HV2.out]; exact HL.out
    · have HU1 := Lib.hid (uintV_lt hs1)
      have HU2 := Lib.hid (uintV_ge hs2)
      clear hs1 hs2
      go_wp2_with fail
      refine CW.out.mono ?_
      rintro e w1 ⟨rfl, j1, rfl⟩
      rw [HU1.out]
      go_wp2_with fail
      refine (CV.out _ (blw_drewN (Below.refl _ _) _)).mono ?_
      rintro e w2 ⟨rfl, j2, rfl⟩
      rw [HU2.out]
      have B1 := Lib.hid (show Below w.heap.size w (w.drewN (j1 + j2)) from blw_drewN (Below.refl _ _) _)
      go_wp2_with fail
      generalize w.drewN (j1 + j2) = w1 at *
      go_wp2_with fail
      go_loopw [0, 1] (fun x y wr => ∃ p q : Nat, Hid (∃ a l c, x = .slice a l c ∧ Rd wr (.slice a l c) (nf p)) ∧ Hid (∃ a l c, y = .slice a l c ∧ Rd wr (.slice a l c) (nf q)) ∧ Hid (Below w.heap.size w wr) ∧ Hid (Nat.gcd p q = Nat.gcd m n) ∧ Hid ((nf p).length ≤ K) ∧ Hid ((nf q).length ≤ K)) (fun _ y wr => rdVal wr y)
      case atStart => exact ⟨m, n, ⟨_, _, _, rfl, HU.out.keep B1.out⟩, ⟨_, _, _, rfl, HV.out.keep B1.out⟩, B1, rfl, HL1, HL2⟩
      case round =>
        obtain ⟨p, q, hP, hQ, hW, hG, hlp, hlq⟩ := hrel
        obtain ⟨ax, lx, cx, rfl, hx⟩ := hP.out
        obtain ⟨ay, ly, cy, rfl, hy⟩ := hQ.out
        have HX := Lib.hid hx
        have HY := Lib.hid hy
        have hly := hy.len
        clear hP hQ hx hy
        by_cases h0 : q = 0
        · have HE : Hid (p = Nat.gcd m n) := by show _ = _; rw [← hG.out, h0, Nat.gcd_zero_right]
          have hz : ¬ ((0 : Int) < (ly : Int)) := by rw [hly, h0]; decide
          have HLP := Lib.hid hlp.out
          clear h0 hly
          go_wp2_with (at_builtin; go_loud (refine app_u32 _ rfl (.tmp 42) (.tmp 43) 41 41 rfl Tryz.underlying41 Tryz.underlying41 wr.heap.size _ _ [] (nf p) rfl rfl (own_lit wr [] dig_nil (by simp) _ rfl) (HX.out.keep (blw_one _ _)) (by have := HLP.out; simp; omega) (by simp) ?_); intro v1 w3 o1 g1 _)
          have B3 := own_grown (own_lit wr [] dig_nil (by simp) _ rfl) (blw_one _ _) g1 (Nat.le_refl _)
          go_ret
          rw [List.nil_append, HE.out] at o1
          exact .mk (.of_own o1 HGL.out) (blw_trans hW.out B3)
        · have hz : (0 : Int) < (ly : Int) := by rw [hly]; have := nf_len_pos h0; omega
          obtain ⟨g1, g2⟩ := gcd_step h0 hG.out
          have HG := Lib.hid g1
          have HL := Lib.hid g2
          have CD := Lib.hid (divideW (w := wr) ⟨HX.out, hlp.out⟩ ⟨HY.out, hlq.out⟩ h0 hK)
          clear g1 g2 h0 hly
          go_wp2_with fail
          refine CD.out.mono ?_
          rintro e w3 ⟨aq, lq, cq, ar, lr, cr, rfl, _, hr, b3⟩
          have HR := Lib.hid hr.1
          have hV := rdVal_eq HY.out
          have hV2 := rdVal_eq hr.1
          rw [val_nf] at hV hV2
          have HV1 := Lib.hid hV
          have HV2 := Lib.hid hV2
          have HB3 := Lib.hid b3
          clear hr hV hV2 b3
          go_wp2_with fail
          go_roundw
          case rel => exact ⟨q, p % q, ⟨_, _, _, rfl, HY.out.keep HB3.out⟩, ⟨_, _, _, rfl, HR.out⟩, blw_trans hW.out HB3.out, HG, hlq, len_le (Nat.mod_le _ _) hlp.out⟩
          case measure => rw [HV1.out, HV2.out]; exact HL.out

theorem root_start (m : Nat) : m < (0 + 2 ^ ((nbits m + 1) / 2 + 1)) * (0 + 2 ^ ((nbits m + 1) / 2 + 1)) := by
  rw [Nat.zero_add, ← Nat.pow_add]
  exact Nat.lt_of_lt_of_le (nbits_lt m) (Nat.pow_le_pow_right (by omega) (by omega))
theorem root_len {r m k : Nat} (h : r * r ≤ m) (hk : (nf m).length ≤ k) : (nf r).length ≤ k := by
  refine len_le ?_ hk
  rcases Nat.eq_zero_or_pos r with h0 | h0
  · omega
  · exact Nat.le_trans (Nat.le_mul_of_pos_left r h0) h
/-- A root is returned. -/
def RetRoot (w : World) (m k : Nat) (e : Ending) (w' : World) : Prop := ∃ r, IsRoot m r ∧ RetN w r k e w'
end Go.Proofs.YtdlnoeegboapkaaGreatDoor

/- The reference's integers and their conversions: contracts of bspregionnum.Make .. Floor and of bspregionref01. printed by a small program (mkint3.py). -/
namespace Go.Proofs.YtdlnoeegboapkaaGreatDoor
open Go.RowKit

theorem sgn_not {x : Int} : sgn (!decide (x < 0)) x.natAbs = -x := by
  unfold sgn
  by_cases h : x < 0 <;> simp [h] <;> omega
theorem sgn_mul {x y : Int} : sgn (decide (x < 0) != decide (y < 0)) (x.natAbs * y.natAbs) = x * y := by
  have h : sgn (decide (x < 0) != decide (y < 0)) (x.natAbs * y.natAbs) = sgn (decide (x < 0)) x.natAbs * sgn (decide (y < 0)) y.natAbs := by
    cases decide (x < 0) <;> cases decide (y < 0) <;> simp [sgn, Int.neg_mul, Int.mul_neg]
  rw [h, sgn_of, sgn_of]
theorem sgn_add {x y : Int} (h : decide (x < 0) = decide (y < 0)) : sgn (decide (x < 0)) (x.natAbs + y.natAbs) = x + y := by
  have h' : sgn (decide (x < 0)) (x.natAbs + y.natAbs) = sgn (decide (x < 0)) x.natAbs + sgn (decide (y < 0)) y.natAbs := by
    rw [h]; cases decide (y < 0) <;> simp [sgn] <;> omega
  rw [h', sgn_of, sgn_of]
theorem sgn_less {x y : Int} (h : decide (x < 0) ≠ decide (y < 0)) (hl : y.natAbs ≤ x.natAbs) : sgn (decide (x < 0)) (x.natAbs - y.natAbs) = x + y := by
  have h' : sgn (decide (x < 0)) (x.natAbs - y.natAbs) = sgn (decide (x < 0)) x.natAbs + sgn (decide (y < 0)) y.natAbs := by
    revert h; cases decide (x < 0) <;> cases decide (y < 0) <;> simp [sgn] <;> omega
  rw [h', sgn_of, sgn_of]
theorem cmpN_ltB {m n : Nat} (h : m < n) : (cmpN m n < 0) ↔ True := by rw [cmpN_lt h]; decide
theorem cmpN_geB {m n : Nat} (h : n ≤ m) : (cmpN m n < 0) ↔ False := by
  rcases Nat.lt_or_ge n m with h' | h'
  · rw [cmpN_gt h']; decide
  · rw [cmpN_eq (by omega)]; decide
end Go.Proofs.YtdlnoeegboapkaaGreatDoor

/- Contracts of layers 1 and 2 and of the reference's numbers, in the form that instance search serves. printed by a small program (mkcon.py). -/
namespace Go.Proofs.YtdlnoeegboapkaaGreatDoor
open Go.RowKit

theorem Calls.cE {P : Program} {f : FuncId} {args : Array Value} {w : World} {v : Value} {K : Ending → World → Prop} (h : Calls P f args w (fun e w' => e = .returned v ∧ Below w.heap.size w w'))
    (hK : ∀ w' [Kp1 w w'], K (.returned v) w') : Calls P f args w K := by
  refine h.mono ?_
  rintro e w' ⟨rfl, hb⟩
  exact @hK w' ⟨hb⟩
theorem Calls.cS {P : Program} {f : FuncId} {args : Array Value} {w : World} {v : Value} {K : Ending → World → Prop} (h : Calls P f args w (fun e w' => e = .returned v ∧ w = w')) (hK : K (.returned v) w) : Calls P f args w K := Calls.kS h hK
theorem Calls.cR {P : Program} {f : FuncId} {args : Array Value} {w : World} {n k : Nat} {K : Ending → World → Prop} (h : Calls P f args w (RetR w n k))
    (hK : ∀ w' [Kp1 w w'] a l c [CR w' (.slice a l c) n k], K (.returned (.slice a l c)) w') : Calls P f args w K := by
  refine h.mono ?_
  rintro e w' ⟨a, l, c, rfl, hn, hb⟩
  exact @hK w' ⟨hb⟩ a l c ⟨hn⟩
theorem E.fin {w w' : World} {v v' : Value} [b : Kp w w'] (e : v = v') : (fun e w' => e = Ending.returned v' ∧ Below w.heap.size w w') (.returned v) w' := by
  subst e; exact ⟨rfl, b.out⟩
theorem CN.cast {W : World} {v : Value} {n n' : Nat} {k k' : Nat} (h : CN W v n k) (e : n = n') (b : k ≤ k') : CN W v n' k' := by
  subst e; exact ⟨h.out.mono b⟩
theorem CR.cast {W : World} {v : Value} {n n' : Nat} {k k' : Nat} (h : CR W v n k) (e : n = n') (b : k ≤ k') : CR W v n' k' := by
  subst e; exact ⟨h.out.mono b⟩
theorem CZ.cast {W : World} {v : Value} {n n' : Int} {k k' : Nat} (h : CZ W v n k) (e : n = n') (b : k ≤ k') : CZ W v n' k' := by
  subst e; exact ⟨by obtain ⟨g, a, l, c, e, h'⟩ := h.out; exact ⟨g, a, l, c, e, h'.cast rfl b⟩⟩
theorem CI.cast {W : World} {v : Value} {n n' : Int} {k k' : Nat} (h : CI W v n k) (e : n = n') (b : k ≤ k') : CI W v n' k' := by
  subst e; exact ⟨by obtain ⟨g, a, l, c, e, m, h1, h2⟩ := h.out; exact ⟨g, a, l, c, e, m, h1.mono b, h2⟩⟩
/-- A value of the kind N is returned; nothing that was there has changed. -/
def CNRet (w : World) (x : Nat) (k : Nat) (e : Ending) (w' : World) : Prop := ∃ a l c, e = .returned (.slice a l c) ∧ CN w' (.slice a l c) x k ∧ Below w.heap.size w w'
theorem CNRet.of {w w' : World} {n k : Nat} {e : Ending} (h : RetN w n k e w') : CNRet w n k e w' := by
  obtain ⟨a, l, c, e, h, hb⟩ := h; exact ⟨a, l, c, e, ⟨h⟩, hb⟩
theorem Calls.cN {P : Program} {f : FuncId} {args : Array Value} {w : World} {x : Nat} {k : Nat} {K : Ending → World → Prop} (h : Calls P f args w (CNRet w x k))
    (hK : ∀ w' [Kp1 w w'] (a : Option Addr) (l : Nat) (c : Nat) [CN w' (.slice a l c) x k], K (.returned (.slice a l c)) w') : Calls P f args w K := by
  refine h.mono ?_
  rintro e w' ⟨a, l, c, rfl, hx, hb⟩
  exact @hK w' ⟨hb⟩ a l c hx
theorem CNRet.fin {w w' : World} {a : Option Addr} {l : Nat} {c : Nat} {x x' : Nat} {kx : Nat} {k : Nat} [b : Kp w w'] [hx : CN w' (.slice a l c) x kx] (ex : x = x') (mx : kx ≤ k) : CNRet w x' k (.returned (.slice a l c)) w' :=
  ⟨_, _, _, rfl, hx.cast ex mx, b.out⟩
/-- A value of the kind Z is returned; nothing that was there has changed. -/
def CZRet (w : World) (x : Int) (k : Nat) (e : Ending) (w' : World) : Prop := ∃ g a l c, e = .returned (.agg #[.bool g, .slice a l c]) ∧ CZ w' (.agg #[.bool g, .slice a l c]) x k ∧ Below w.heap.size w w'
theorem CZRet.of {w w' : World} {x : Int} {k : Nat} {e : Ending} (h : RetZ w x k e w') : CZRet w x k e w' := by
  obtain ⟨g, a, l, c, e, h, hb⟩ := h; exact ⟨g, a, l, c, e, ⟨⟨g, a, l, c, rfl, h⟩⟩, hb⟩
theorem Calls.cZ {P : Program} {f : FuncId} {args : Array Value} {w : World} {x : Int} {k : Nat} {K : Ending → World → Prop} (h : Calls P f args w (CZRet w x k))
    (hK : ∀ w' [Kp1 w w'] (g : Bool) (a : Option Addr) (l : Nat) (c : Nat) [CZ w' (.agg #[.bool g, .slice a l c]) x k], K (.returned (.agg #[.bool g, .slice a l c])) w') : Calls P f args w K := by
  refine h.mono ?_
  rintro e w' ⟨g, a, l, c, rfl, hx, hb⟩
  exact @hK w' ⟨hb⟩ g a l c hx
theorem CZRet.fin {w w' : World} {g : Bool} {a : Option Addr} {l : Nat} {c : Nat} {x x' : Int} {kx : Nat} {k : Nat} [b : Kp w w'] [hx : CZ w' (.agg #[.bool g, .slice a l c]) x kx] (ex : x = x') (mx : kx ≤ k) : CZRet w x' k (.returned (.agg #[.bool g, .slice a l c])) w' :=
  ⟨_, _, _, _, rfl, hx.cast ex mx, b.out⟩
theorem zz_of {w : World} {g : Bool} {a : Option Addr} {l c : Nat} {z : Int} {k : Nat} (h : CZ w (.agg #[.bool g, .slice a l c]) z k) : Zz w g (.slice a l c) z k := by
  obtain ⟨g', a', l', c', e, h⟩ := h.out
  simp only [Value.agg.injEq, Array.mk.injEq, List.cons.injEq, Value.bool.injEq, and_true] at e
  obtain ⟨rfl, e⟩ := e
  rw [e]; exact h
theorem zi_of {w : World} {g : Bool} {a : Option Addr} {l c : Nat} {z : Int} {k : Nat} (h : CI w (.agg #[.bool g, .slice a l c]) z k) : Zi w g (.slice a l c) z k := by
  obtain ⟨g', a', l', c', e, h⟩ := h.out
  simp only [Value.agg.injEq, Array.mk.injEq, List.cons.injEq, Value.bool.injEq, and_true] at e
  obtain ⟨rfl, e⟩ := e
  rw [e]; exact h
theorem normC {w : World} {a1 : Option Addr} {l1 c1 m k1 : Nat} [h1 : CR w (.slice a1 l1 c1) m k1] (b : k1 ≤ 900000) :
    Calls Tryz.prog 216 #[.slice a1 l1 c1] w (CNRet w m (k1)) :=
  (normW h1.out b).mono fun _ _ => CNRet.of
theorem addC {w : World} {a1 a2 : Option Addr} {l1 c1 m l2 c2 n k1 k2 : Nat} [h1 : CR w (.slice a1 l1 c1) m k1] [h2 : CR w (.slice a2 l2 c2) n k2] (b : k1 ≤ 900000 ∧ k2 ≤ 900000) :
    Calls Tryz.prog 272 #[.slice a1 l1 c1, .slice a2 l2 c2] w (CNRet w (m + n) (max k1 k2 + 1)) :=
  (addW h1.out h2.out b.1 b.2).mono fun _ _ => CNRet.of
theorem mulC {w : World} {a1 a2 : Option Addr} {l1 c1 m l2 c2 n k1 k2 : Nat} [h1 : CR w (.slice a1 l1 c1) m k1] [h2 : CR w (.slice a2 l2 c2) n k2] (b : k1 ≤ 900000 ∧ k2 ≤ 900000) :
    Calls Tryz.prog 212 #[.slice a1 l1 c1, .slice a2 l2 c2] w (CNRet w (m * n) (k1 + k2)) :=
  (mulW h1.out h2.out b.1 b.2).mono fun _ _ => CNRet.of
theorem gcdC {w : World} {a1 a2 : Option Addr} {l1 c1 m l2 c2 n k1 k2 : Nat} [h1 : CR w (.slice a1 l1 c1) m k1] [h2 : CR w (.slice a2 l2 c2) n k2] (b : k1 ≤ 900000 ∧ k2 ≤ 900000) :
    Calls Tryz.prog 249 #[.slice a1 l1 c1, .slice a2 l2 c2] w (CNRet w (Nat.gcd m n) (max k1 k2)) :=
  (gcdW h1.out h2.out b.1 b.2).mono fun _ _ => CNRet.of
theorem cmpC {w : World} {a1 a2 : Option Addr} {l1 c1 m l2 c2 n k1 k2 : Nat} [h1 : CR w (.slice a1 l1 c1) m k1] [h2 : CR w (.slice a2 l2 c2) n k2] :
    Calls Tryz.prog 281 #[.slice a1 l1 c1, .slice a2 l2 c2] w (fun e w' => e = .returned (.int .i64 (cmpN m n)) ∧ Below w.heap.size w w') :=
  cmpW h1.out h2.out
theorem bitsC {w : World} {a1 : Option Addr} {l1 c1 m k1 : Nat} [h1 : CR w (.slice a1 l1 c1) m k1] (b : k1 ≤ 900000) :
    Calls Tryz.prog 133 #[.slice a1 l1 c1] w (fun e w' => e = .returned (.int .i64 ((nbits m : Nat) : Int)) ∧ w = w') :=
  bitsW h1.out b
theorem uintC {w : World} {a1 : Option Addr} {l1 c1 m k1 : Nat} [h1 : CR w (.slice a1 l1 c1) m k1] :
    Calls Tryz.prog 252 #[.slice a1 l1 c1] w (fun e w' => e = .returned (uintV m) ∧ w = w') :=
  uintW h1.out
theorem refNC {w : World} {a1 : Option Addr} {l1 c1 m k1 : Nat} [h1 : CR w (.slice a1 l1 c1) m k1] (b : k1 ≤ 900000) :
    Calls Tryz.prog 63 #[.slice a1 l1 c1] w (CNRet w m (k1)) :=
  (refNW h1.out b).mono fun _ _ => CNRet.of
theorem refToNC {w : World} {a1 : Option Addr} {l1 c1 m k1 : Nat} [h1 : CN w (.slice a1 l1 c1) m k1] (b : k1 ≤ 900000) :
    Calls Tryz.prog 102 #[.slice a1 l1 c1] w (CNRet w m (k1)) :=
  (refToNW h1.out b).mono fun _ _ => CNRet.of
theorem numSumC {w : World} {a1 a2 : Option Addr} {l1 c1 m l2 c2 n k1 k2 : Nat} [h1 : CN w (.slice a1 l1 c1) m k1] [h2 : CN w (.slice a2 l2 c2) n k2] (b : k1 ≤ 900000 ∧ k2 ≤ 900000) :
    Calls Tryz.prog 180 #[.slice a1 l1 c1, .slice a2 l2 c2] w (CNRet w (m + n) (max k1 k2 + 1)) :=
  (numSumW h1.out h2.out b.1 b.2).mono fun _ _ => CNRet.of
theorem numProductC {w : World} {a1 a2 : Option Addr} {l1 c1 m l2 c2 n k1 k2 : Nat} [h1 : CN w (.slice a1 l1 c1) m k1] [h2 : CN w (.slice a2 l2 c2) n k2] (b : k1 ≤ 900000 ∧ k2 ≤ 900000) :
    Calls Tryz.prog 62 #[.slice a1 l1 c1, .slice a2 l2 c2] w (CNRet w (m * n) (k1 + k2)) :=
  (numProductW h1.out h2.out b.1 b.2).mono fun _ _ => CNRet.of
theorem commonC {w : World} {a1 a2 : Option Addr} {l1 c1 m l2 c2 n k1 k2 : Nat} [h1 : CN w (.slice a1 l1 c1) m k1] [h2 : CN w (.slice a2 l2 c2) n k2] (b : k1 ≤ 200000 ∧ k2 ≤ 200000) :
    Calls Tryz.prog 138 #[.slice a1 l1 c1, .slice a2 l2 c2] w (CNRet w (Nat.gcd m n) (max k1 k2)) :=
  (commonW h1.out h2.out b.1 b.2).mono fun _ _ => CNRet.of
theorem numCmpC {w : World} {a1 a2 : Option Addr} {l1 c1 m l2 c2 n k1 k2 : Nat} [h1 : CN w (.slice a1 l1 c1) m k1] [h2 : CN w (.slice a2 l2 c2) n k2] :
    Calls Tryz.prog 139 #[.slice a1 l1 c1, .slice a2 l2 c2] w (fun e w' => e = .returned (.int .i64 (cmpN m n)) ∧ Below w.heap.size w w') :=
  numCmpW h1.out h2.out
theorem fromUintC {w : World} {x : Int} (b : 0 ≤ x ∧ x < 18446744073709551616) : Calls Tryz.prog 217 #[.int .u64 x] w (CNRet w x.toNat 2) := by
  obtain ⟨n, rfl⟩ : ∃ n : Nat, x = n := ⟨x.toNat, by omega⟩
  exact (fromUintW (x := n) (by omega)).mono fun _ _ => CNRet.of
theorem wordC {w : World} {x : Int} (b : 0 ≤ x ∧ x < 18446744073709551616) : Calls Tryz.prog 126 #[.int .u64 x] w (CNRet w x.natAbs 2) :=
  (numWordI b.1 b.2).mono fun _ _ => CNRet.of
theorem oneC {w : World} : Calls Tryz.prog 73 #[] w (CNRet w 1 1) := numOneW.mono fun _ _ => CNRet.of
theorem numLessC {w : World} {a1 a2 : Option Addr} {l1 c1 l2 c2 m n k1 k2 : Nat} [h1 : CN w (.slice a1 l1 c1) m k1] [h2 : CN w (.slice a2 l2 c2) n k2] (b : k1 ≤ 900000) (hle : n ≤ m) :
    Calls Tryz.prog 181 #[.slice a1 l1 c1, .slice a2 l2 c2] w (CNRet w (m - n) k1) := (numLessW h1.out h2.out b hle).mono fun _ _ => CNRet.of
/-- Make, signed: the sign is struck where the number is 0. -/
def SgRet (w : World) (a : Option Addr) (l c : Nat) (z : Int) (k : Nat) (e : Ending) (w' : World) : Prop := ∃ g, e = .returned (.agg #[.bool g, .slice a l c]) ∧ CZ w' (.agg #[.bool g, .slice a l c]) z k ∧ Below w.heap.size w w'
theorem Calls.cSg {P : Program} {f : FuncId} {args : Array Value} {w : World} {a : Option Addr} {l c k : Nat} {z : Int} {K : Ending → World → Prop} (h : Calls P f args w (SgRet w a l c z k))
    (hK : ∀ w' [Kp1 w w'] g [CZ w' (.agg #[.bool g, .slice a l c]) z k], K (.returned (.agg #[.bool g, .slice a l c])) w') : Calls P f args w K := by
  refine h.mono ?_
  rintro e w' ⟨g, rfl, hn, hb⟩
  exact @hK w' ⟨hb⟩ g hn
/-- Two naturals. -/
def QRRet (w : World) (q r k : Nat) (e : Ending) (w' : World) : Prop := ∃ a l c a2 l2 c2, e = .returned (.tuple #[.slice a l c, .slice a2 l2 c2]) ∧ CN w' (.slice a l c) q k ∧ CN w' (.slice a2 l2 c2) r k ∧ Below w.heap.size w w'
theorem divideC {w : World} {a1 a2 : Option Addr} {l1 c1 l2 c2 m n k1 k2 : Nat} [h1 : CN w (.slice a1 l1 c1) m k1] [h2 : CN w (.slice a2 l2 c2) n k2] (b : k1 ≤ 200000 ∧ k2 ≤ 200000) (hn : n ≠ 0) :
    Calls Tryz.prog 140 #[.slice a1 l1 c1, .slice a2 l2 c2] w (QRRet w (m / n) (m % n) (k1 + 2)) := by
  refine (divideW h1.out h2.out hn b.1).mono ?_
  rintro e w' ⟨a, l, c, a2, l2, c2, rfl, q, r, hb⟩
  exact ⟨a, l, c, a2, l2, c2, rfl, ⟨q.mono (by omega)⟩, ⟨r.mono (by omega)⟩, hb⟩
theorem Calls.cQR {P : Program} {f : FuncId} {args : Array Value} {w : World} {q r k : Nat} {K : Ending → World → Prop} (h : Calls P f args w (QRRet w q r k))
    (hK : ∀ w' [Kp1 w w'] a l c a2 l2 c2 [CN w' (.slice a l c) q k] [CN w' (.slice a2 l2 c2) r k], K (.returned (.tuple #[.slice a l c, .slice a2 l2 c2])) w') : Calls P f args w K := by
  refine h.mono ?_
  rintro e w' ⟨a, l, c, a2, l2, c2, rfl, h1, h2, hb⟩
  exact @hK w' ⟨hb⟩ a l c a2 l2 c2 h1 h2
def DMRet (w : World) (q r k : Nat) (ok : Bool) (e : Ending) (w' : World) : Prop := ∃ a l c a2 l2 c2, e = .returned (.tuple #[.slice a l c, .slice a2 l2 c2, .bool ok]) ∧ CN w' (.slice a l c) q k ∧ CN w' (.slice a2 l2 c2) r k ∧ Below w.heap.size w w'
theorem divmodC {w : World} {a1 a2 : Option Addr} {l1 c1 l2 c2 m n k1 k2 : Nat} [h1 : CR w (.slice a1 l1 c1) m k1] [h2 : CR w (.slice a2 l2 c2) n k2] (b : k1 ≤ 900000) :
    Calls Tryz.prog 250 #[.slice a1 l1 c1, .slice a2 l2 c2] w (DMRet w (m / n) (if n = 0 then 0 else m % n) k1 (decide (n ≠ 0))) := by
  refine (divmodW h1.out h2.out b).mono ?_
  rintro e w' ⟨a, l, c, a2, l2, c2, rfl, q, r, hb⟩
  exact ⟨a, l, c, a2, l2, c2, rfl, ⟨q⟩, ⟨r⟩, hb⟩
theorem Calls.cDM {P : Program} {f : FuncId} {args : Array Value} {w : World} {q r k : Nat} {ok : Bool} {K : Ending → World → Prop} (h : Calls P f args w (DMRet w q r k ok))
    (hK : ∀ w' [Kp1 w w'] a l c a2 l2 c2 [CN w' (.slice a l c) q k] [CN w' (.slice a2 l2 c2) r k], K (.returned (.tuple #[.slice a l c, .slice a2 l2 c2, .bool ok])) w') : Calls P f args w K := by
  refine h.mono ?_
  rintro e w' ⟨a, l, c, a2, l2, c2, rfl, h1, h2, hb⟩
  exact @hK w' ⟨hb⟩ a l c a2 l2 c2 h1 h2
/-- Division of integers. -/
def IDRet (w : World) (x y : Int) (k : Nat) (e : Ending) (w' : World) : Prop := ∃ g a l c g2 a2 l2 c2, e = .returned (.tuple #[.agg #[.bool g, .slice a l c], .agg #[.bool g2, .slice a2 l2 c2], .bool (decide (y ≠ 0))]) ∧ CZ w' (.agg #[.bool g, .slice a l c]) (x / y) k ∧ CZ w' (.agg #[.bool g2, .slice a2 l2 c2]) (if y = 0 then 0 else x % y) k ∧ Below w.heap.size w w'
theorem Calls.cID {P : Program} {f : FuncId} {args : Array Value} {w : World} {x y : Int} {k : Nat} {K : Ending → World → Prop} (h : Calls P f args w (IDRet w x y k))
    (hK : ∀ w' [Kp1 w w'] g a l c g2 a2 l2 c2 [CZ w' (.agg #[.bool g, .slice a l c]) (x / y) k] [CZ w' (.agg #[.bool g2, .slice a2 l2 c2]) (if y = 0 then 0 else x % y) k], K (.returned (.tuple #[.agg #[.bool g, .slice a l c], .agg #[.bool g2, .slice a2 l2 c2], .bool (decide (y ≠ 0))])) w') : Calls P f args w K := by
  refine h.mono ?_
  rintro e w' ⟨g, a, l, c, g2, a2, l2, c2, rfl, h1, h2, hb⟩
  exact @hK w' ⟨hb⟩ g a l c g2 a2 l2 c2 h1 h2
theorem sameNC {w : World} {a1 a2 : Option Addr} {l1 c1 l2 c2 m n k1 k2 : Nat} [h1 : CN w (.slice a1 l1 c1) m k1] [h2 : CN w (.slice a2 l2 c2) n k2] (e : m = n) :
    Calls Tryz.prog 100 #[.slice a1 l1 c1, .slice a2 l2 c2] w fun e w' => e = .returned (.bool true) ∧ Below w.heap.size w w' := sameNT h1.out h2.out e
/-- A natural and a Boolean. -/
def NBRet (w : World) (n : Nat) (v : Bool) (k : Nat) (e : Ending) (w' : World) : Prop := ∃ a l c, e = .returned (.tuple #[.slice a l c, .bool v]) ∧ CN w' (.slice a l c) n k ∧ Below w.heap.size w w'
theorem Calls.cNB {P : Program} {f : FuncId} {args : Array Value} {w : World} {n k : Nat} {v : Bool} {K : Ending → World → Prop} (h : Calls P f args w (NBRet w n v k))
    (hK : ∀ w' [Kp1 w w'] a l c [CN w' (.slice a l c) n k], K (.returned (.tuple #[.slice a l c, .bool v])) w') : Calls P f args w K := by
  refine h.mono ?_
  rintro e w' ⟨a, l, c, rfl, h1, hb⟩
  exact @hK w' ⟨hb⟩ a l c h1
theorem natSubC {w : World} {a1 a2 : Option Addr} {l1 c1 l2 c2 m n k1 k2 : Nat} [h1 : CR w (.slice a1 l1 c1) m k1] [h2 : CR w (.slice a2 l2 c2) n k2] (b : k1 ≤ 900000) :
    Calls Tryz.prog 273 #[.slice a1 l1 c1, .slice a2 l2 c2] w (NBRet w (m - n) (decide (n ≤ m)) k1) :=
  (subW h1.out h2.out b).mono fun _ _ ⟨a, l, c, e, h, hb⟩ => ⟨a, l, c, e, ⟨h⟩, hb⟩
theorem SgRet.fin {w w' : World} {a : Option Addr} {l c n k : Nat} {g g' : Bool} [b : Kp w w'] [h : CN w' (.slice a l c) n k] (e : g' = (g && decide (0 < l))) : SgRet w a l c (sgn g n) k (.returned (.agg #[.bool g', .slice a l c])) w' :=
  ⟨g', rfl, ⟨⟨_, _, _, _, rfl, by subst e; exact Zz.mk' h.out⟩⟩, b.out⟩
theorem CZ.mkB {W : World} {a : Option Addr} {l c n k : Nat} {g g' : Bool} [h : CN W (.slice a l c) n k] (e : g' = (g && decide (0 < l))) : CZ W (.agg #[.bool g', .slice a l c]) (sgn g n) k := ⟨⟨_, _, _, _, rfl, by subst e; exact Zz.mk' h.out⟩⟩
theorem CZ.mkA {W : World} {a : Option Addr} {l c n k : Nat} {g : Bool} {x : Int} [h : CN W (.slice a l c) n k] (en : n = x.natAbs) (e : g = decide (x < 0)) : CZ W (.agg #[.bool g, .slice a l c]) x k := ⟨⟨_, _, _, _, rfl, e, by subst en; exact h.out⟩⟩
end Go.Proofs.YtdlnoeegboapkaaGreatDoor

/- Contracts of integers: package integer and the reference's, by walks. printed by a small program (mkcon.py). -/
namespace Go.Proofs.YtdlnoeegboapkaaGreatDoor
open Go.RowKit
set_option maxRecDepth 100000
set_option maxHeartbeats 40000000
set_option synthInstance.maxSize 100000
set_option synthInstance.maxHeartbeats 1000000
set_option linter.unusedVariables false
set_option linter.unusedSimpArgs false

theorem makeC {w : World} {g : Bool} {a : Option Addr} {l c n k : Nat} [h : CN w (.slice a l c) n k] : Calls Tryz.prog 119 #[.bool g, .slice a l c] w (SgRet w a l c (sgn g n) k) := by
  go_enter Tryz.func119, Tryz.ntmps119
  cases g
  all_goals
    go_wp2
    refine ret_bx rfl Tryz.underlying43 rfl (by kernel_rfl) rfl rfl rfl ?_
    exact SgRet.fin (by simp)
theorem signedC {w : World} {g : Bool} {a : Option Addr} {l c n k : Nat} [h : CN w (.slice a l c) n k] : Calls Tryz.prog 189 #[.bool g, .slice a l c] w (SgRet w a l c (sgn g n) k) := by
  go_enter Tryz.func189, Tryz.ntmps189
  cases g
  all_goals
    go_wp2
    refine ret_bx rfl Tryz.underlying27 rfl (by kernel_rfl) rfl rfl rfl ?_
    exact SgRet.fin (by simp)
theorem intNormC {w : World} {g1 : Bool} {a1 : Option Addr} {l1 c1 k1 : Nat} {x : Int} [h1 : CI w (.agg #[.bool g1, .slice a1 l1 c1]) x k1] (b : k1 ≤ 900000) :
    Calls Tryz.prog 215 #[.agg #[.bool g1, .slice a1 l1 c1]] w (CZRet w x (k1)) := by
  obtain ⟨m, r1, rfl⟩ := zi_of h1
  have i1 : CR w (.slice a1 l1 c1) m k1 := ⟨r1⟩
  clear r1
  cases g1
  all_goals
    go_enter Tryz.func215, Tryz.ntmps215
    go_wp2_with (first
    | (go_at_call 216; (with_reducible refine Calls.cN (normC (by omega)) ?_); intros))
    refine ret_bx rfl Tryz.underlying27 rfl (by kernel_rfl) rfl rfl rfl ?_
    exact CZRet.fin (hx := CZ.mkB (by simp)) rfl (by omega)
theorem intNegC {w : World} {g1 : Bool} {a1 : Option Addr} {l1 c1 k1 : Nat} {x : Int} [h1 : CI w (.agg #[.bool g1, .slice a1 l1 c1]) x k1] (b : k1 ≤ 900000) :
    Calls Tryz.prog 291 #[.agg #[.bool g1, .slice a1 l1 c1]] w (CZRet w (-x) (k1)) := by
  obtain ⟨m, r1, rfl⟩ := zi_of h1
  have i : CI w (.agg #[.bool (!g1), .slice a1 l1 c1]) (-sgn g1 m) k1 := ⟨⟨_, _, _, _, rfl, m, r1, by cases g1 <;> simp [sgn]⟩⟩
  clear r1
  cases g1
  all_goals
    simp only [Bool.not_false, Bool.not_true] at i
    go_enter Tryz.func291, Tryz.ntmps291
    go_wp2_with (first
    | (go_at_call 215; (with_reducible refine Calls.cZ (intNormC (by omega)) ?_); intros))
    refine ret_bx rfl Tryz.underlying27 rfl (by kernel_rfl) rfl rfl rfl ?_
    exact CZRet.fin rfl (by omega)
theorem intAddC {w : World} {g1 g2 : Bool} {a1 a2 : Option Addr} {l1 c1 l2 c2 k1 k2 : Nat} {x y : Int} [h1 : CI w (.agg #[.bool g1, .slice a1 l1 c1]) x k1] [h2 : CI w (.agg #[.bool g2, .slice a2 l2 c2]) y k2] (b : k1 ≤ 900000 ∧ k2 ≤ 900000) :
    Calls Tryz.prog 210 #[.agg #[.bool g1, .slice a1 l1 c1], .agg #[.bool g2, .slice a2 l2 c2]] w (CZRet w (x + y) (max k1 k2 + 1)) := by
  obtain ⟨m, r1, rfl⟩ := zi_of h1
  have i1 : CR w (.slice a1 l1 c1) m k1 := ⟨r1⟩
  obtain ⟨n, r2, rfl⟩ := zi_of h2
  have i2 : CR w (.slice a2 l2 c2) n k2 := ⟨r2⟩
  clear r1 r2
  by_cases hg : g1 = g2
  · subst hg
    have HE := Lib.hid (show sgn g1 (m + n) = sgn g1 m + sgn g1 n by cases g1 <;> simp [sgn] <;> omega)
    go_enter Tryz.func210, Tryz.ntmps210
    go_wp2_with fail
    refine rgn [w.heap.size + 1 + 1] [] fun hHeld => ?_
    refine tk 0 hHeld ?_
    refine tk 1 hHeld ?_
    refine tk 2 hHeld ?_
    refine tk 3 hHeld ?_
    refine tk 4 hHeld ?_
    refine tk 5 hHeld ?_
    refine st 6 fun K hK => ?_
    go_simp
    (with_reducible refine Calls.cN (addC (by omega)) ?_); intros
    refine hd hK ?_
    clear hHeld hK K
    intro hHeld
    refine st 7 fun K hK => ?_
    go_simp
    (with_reducible refine Calls.cSg (signedC) ?_); intros
    refine hd hK ?_
    clear hHeld hK K
    intro hHeld
    refine st 8 fun K hK => ?_
    go_simp
    refine hd hK ?_
    clear hHeld hK K
    intro hHeld
    refine dn ?_
    clear hHeld
    go_wp2
    refine ret_bx rfl Tryz.underlying27 rfl (by kernel_rfl) rfl rfl rfl ?_
    exact CZRet.fin HE.out (by omega)
  · have hg' : g2 = !g1 := by cases g1 <;> cases g2 <;> simp_all
    have hb0 : (g1 == g2) = false := by simpa using hg
    by_cases hnm : n ≤ m
    · have hd : decide (n ≤ m) = true := decide_eq_true hnm
      have HE : Hid (sgn g1 (m - n) = sgn g1 m + sgn g2 n) := by show _ = _; subst hg'; cases g1 <;> simp [sgn] <;> omega
      clear hg hg' hnm
      go_enter Tryz.func210, Tryz.ntmps210
      go_wp2_with (first
    | (go_at_call 273; (with_reducible refine Calls.cNB (natSubC (by omega)) ?_); intros)
    | (go_at_call 189; (with_reducible refine Calls.cSg (signedC) ?_); intros))
      refine ret_bx rfl Tryz.underlying27 rfl (by kernel_rfl) rfl rfl rfl ?_
      exact CZRet.fin HE.out (by omega)
    · have hd : decide (n ≤ m) = false := decide_eq_false hnm
      have HE : Hid (sgn g2 (n - m) = sgn g1 m + sgn g2 n) := by show _ = _; subst hg'; cases g1 <;> simp [sgn] <;> omega
      clear hg hg' hnm
      go_enter Tryz.func210, Tryz.ntmps210
      go_wp2_with (first
    | (go_at_call 273; (with_reducible refine Calls.cNB (natSubC (by omega)) ?_); intros)
    | (go_at_call 189; (with_reducible refine Calls.cSg (signedC) ?_); intros))
      refine ret_bx rfl Tryz.underlying27 rfl (by kernel_rfl) rfl rfl rfl ?_
      exact CZRet.fin HE.out (by omega)
theorem intMulC {w : World} {g1 g2 : Bool} {a1 a2 : Option Addr} {l1 c1 l2 c2 k1 k2 : Nat} {x y : Int} [h1 : CI w (.agg #[.bool g1, .slice a1 l1 c1]) x k1] [h2 : CI w (.agg #[.bool g2, .slice a2 l2 c2]) y k2] (b : k1 ≤ 900000 ∧ k2 ≤ 900000) :
    Calls Tryz.prog 211 #[.agg #[.bool g1, .slice a1 l1 c1], .agg #[.bool g2, .slice a2 l2 c2]] w (CZRet w (x * y) (k1 + k2)) := by
  obtain ⟨m, r1, rfl⟩ := zi_of h1
  have i1 : CR w (.slice a1 l1 c1) m k1 := ⟨r1⟩
  obtain ⟨n, r2, rfl⟩ := zi_of h2
  have i2 : CR w (.slice a2 l2 c2) n k2 := ⟨r2⟩
  clear r1 r2
  have HE := Lib.hid (show sgn (g1 != g2) (m * n) = sgn g1 m * sgn g2 n by cases g1 <;> cases g2 <;> simp [sgn, Int.neg_mul, Int.mul_neg])
  go_enter Tryz.func211, Tryz.ntmps211
  go_wp2_with fail
  refine rgn [w.heap.size + 1 + 1] [] fun hHeld => ?_
  refine tk 0 hHeld ?_
  refine tk 1 hHeld ?_
  refine tk 2 hHeld ?_
  refine tk 3 hHeld ?_
  refine tk 4 hHeld ?_
  refine tk 5 hHeld ?_
  refine tk 6 hHeld ?_
  refine tk 7 hHeld ?_
  refine tk 8 hHeld ?_
  refine st 9 fun K hK => ?_
  go_simp
  (with_reducible refine Calls.cN (mulC (by omega)) ?_); intros
  refine hd hK ?_
  clear hHeld hK K
  intro hHeld
  refine st 10 fun K hK => ?_
  go_simp
  (with_reducible refine Calls.cSg (signedC) ?_); intros
  refine hd hK ?_
  clear hHeld hK K
  intro hHeld
  refine st 11 fun K hK => ?_
  go_simp
  refine hd hK ?_
  clear hHeld hK K
  intro hHeld
  refine dn ?_
  clear hHeld
  go_wp2
  refine ret_bx rfl Tryz.underlying27 rfl (by kernel_rfl) rfl rfl rfl ?_
  exact CZRet.fin HE.out (by omega)
theorem intSignC {w : World} {g1 : Bool} {a1 : Option Addr} {l1 c1 k1 : Nat} {x : Int} [h1 : CI w (.agg #[.bool g1, .slice a1 l1 c1]) x k1] (b : k1 ≤ 900000) :
    Calls Tryz.prog 235 #[.agg #[.bool g1, .slice a1 l1 c1]] w (fun e w' => e = .returned (.int .i64 (isgn x)) ∧ Below w.heap.size w w') := by
  obtain ⟨m, r1, rfl⟩ := zi_of h1
  have i1 : CR w (.slice a1 l1 c1) m k1 := ⟨r1⟩
  clear r1
  by_cases hm : m = 0
  · have hb := nbits_eq0 hm
    have HE : Hid (isgn (sgn g1 m) = 0) := by subst hm; cases g1 <;> rfl
    clear hm
    go_enter Tryz.func235, Tryz.ntmps235
    go_wp2_with (first
    | (go_at_call 133; (with_reducible refine Calls.cS (bitsC (by omega)) ?_); intros))
    go_ret
    exact E.fin (by rw [HE.out]; rfl)
  · have hb := nbits_pos' hm
    have HE : Hid (isgn (sgn g1 m) = if g1 then -1 else 1) := by
      show _ = _
      unfold isgn
      cases g1 <;> simp [sgn] <;> omega
    clear hm
    cases g1
    all_goals
      go_enter Tryz.func235, Tryz.ntmps235
      go_wp2_with (first
      | (go_at_call 133; (with_reducible refine Calls.cS (bitsC (by omega)) ?_); intros))
      go_ret
      exact E.fin (by rw [HE.out]; rfl)
theorem int64C {w : World} {g1 : Bool} {a1 : Option Addr} {l1 c1 k1 : Nat} {x : Int} [h1 : CI w (.agg #[.bool g1, .slice a1 l1 c1]) x k1] :
    Calls Tryz.prog 251 #[.agg #[.bool g1, .slice a1 l1 c1]] w (fun e w' => e = .returned (int64V x) ∧ Below w.heap.size w w') := by
  obtain ⟨m, r1, rfl⟩ := zi_of h1
  have i1 : CR w (.slice a1 l1 c1) m k1 := ⟨r1⟩
  clear r1
  by_cases hm : m < 18446744073709551616
  · have hu := Lib.hid (uintV_lt hm)
    cases g1
    · have HI := Lib.hid (fun h : (m : Int) ≤ 9223372036854775807 => int64V_in (x := sgn false m) (by simp only [sgn_false]; omega))
      have HO := Lib.hid (fun h : ¬ (m : Int) ≤ 9223372036854775807 => int64V_out (x := sgn false m) (by simp only [sgn_false]; omega))
      go_enter Tryz.func251, Tryz.ntmps251
      go_wp2_with fail
      with_reducible refine Calls.cS uintC ?_
      rw [hu.out]
      by_cases h9 : (m : Int) ≤ 9223372036854775807
      · go_wp2
        go_ret2
        exact E.fin (by rw [HI.out h9]; rfl)
      · go_wp2
        go_ret2
        exact E.fin (by rw [HO.out h9]; rfl)
    · have HI := Lib.hid (fun h : (m : Int) ≤ 9223372036854775808 => int64V_in (x := sgn true m) (by simp only [sgn_true]; omega))
      have HO := Lib.hid (fun h : ¬ (m : Int) ≤ 9223372036854775808 => int64V_out (x := sgn true m) (by simp only [sgn_true]; omega))
      have HB := Lib.hid (fun h : (m : Int) ≤ 9223372036854775808 => wrap_back (m := m) (by omega))
      go_enter Tryz.func251, Tryz.ntmps251
      go_wp2_with fail
      with_reducible refine Calls.cS uintC ?_
      rw [hu.out]
      by_cases h9 : (m : Int) ≤ 9223372036854775808
      · go_wp2
        go_ret2
        exact E.fin (by rw [HI.out h9]; exact congrArg (fun z => Value.tuple #[.int .i64 z, .bool true]) (HB.out h9))
      · go_wp2
        go_ret2
        exact E.fin (by rw [HO.out h9]; rfl)
  · have hu := Lib.hid (uintV_ge (n := m) (by omega))
    have HO := Lib.hid (int64V_out (x := sgn g1 m) (by cases g1 <;> simp only [sgn_true, sgn_false] <;> omega))
    go_enter Tryz.func251, Tryz.ntmps251
    go_wp2_with fail
    with_reducible refine Calls.cS uintC ?_
    rw [hu.out]
    go_wp2
    go_ret2
    exact E.fin (by rw [HO.out]; rfl)
theorem fromIntC {w : World} {x : Int} (b : -9223372036854775808 ≤ x ∧ x < 9223372036854775808) : Calls Tryz.prog 183 #[.int .i64 x] w (CZRet w x 2) := by
  by_cases hx : x < 0
  · have HE := Lib.hid (wrap_negneg b.1 hx)
    have HD := Lib.hid (show true = decide (x < 0) by simp [hx])
    go_enter Tryz.func183, Tryz.ntmps183
    go_wp2_with fail
    rw [HE.out]
    with_reducible refine Calls.cN (fromUintC (by omega)) ?_
    intros
    go_wp2
    refine ret_bx rfl Tryz.underlying27 rfl (by kernel_rfl) rfl rfl rfl ?_
    exact CZRet.fin (hx := CZ.mkA (by omega) HD.out) rfl (by omega)
  · have hx0 : 0 ≤ x := by omega
    have HD := Lib.hid (show false = decide (x < 0) by simp; exact hx0)
    go_enter Tryz.func183, Tryz.ntmps183
    go_wp2_with fail
    with_reducible refine Calls.cN (fromUintC (by omega)) ?_
    intros
    go_wp2
    refine ret_bx rfl Tryz.underlying27 rfl (by kernel_rfl) rfl rfl rfl ?_
    exact CZRet.fin (hx := CZ.mkA (by omega) HD.out) rfl (by omega)
theorem numIntC {w : World} {x : Int} (b : -9223372036854775808 ≤ x ∧ x < 9223372036854775808) : Calls Tryz.prog 141 #[.int .i64 x] w (CZRet w x 2) := by
  by_cases hx : x < 0
  · have HE := Lib.hid (wrap_negneg b.1 hx)
    have HD := Lib.hid (show sgn true ((x.natAbs : Nat) : Int).natAbs = x by simp [sgn]; omega)
    go_enter Tryz.func141, Tryz.ntmps141
    go_wp2_with fail
    rw [HE.out]
    with_reducible refine Calls.cN (wordC (by omega)) ?_
    intros
    go_wp2_with (first
    | (go_at_call 119; (with_reducible refine Calls.cSg (makeC) ?_); intros))
    refine ret_bx rfl Tryz.underlying43 rfl (by kernel_rfl) rfl rfl rfl ?_
    exact CZRet.fin HD.out (by omega)
  · have hx0 : 0 ≤ x := by omega
    have HD := Lib.hid (show sgn false x.natAbs = x by simp [sgn]; omega)
    go_enter Tryz.func141, Tryz.ntmps141
    go_wp2_with fail
    with_reducible refine Calls.cN (wordC (by omega)) ?_
    intros
    go_wp2_with (first
    | (go_at_call 119; (with_reducible refine Calls.cSg (makeC) ?_); intros))
    refine ret_bx rfl Tryz.underlying43 rfl (by kernel_rfl) rfl rfl rfl ?_
    exact CZRet.fin HD.out (by omega)
theorem numSignC {w : World} {g1 : Bool} {a1 : Option Addr} {l1 c1 k1 : Nat} {x : Int} [h1 : CZ w (.agg #[.bool g1, .slice a1 l1 c1]) x k1] :
    Calls Tryz.prog 116 #[.agg #[.bool g1, .slice a1 l1 c1]] w (fun e w' => e = .returned (.int .i64 (isgn x)) ∧ Below w.heap.size w w') := by
  have HL := Lib.hid (zz_of h1).2.len
  have HG := Lib.hid (zz_of h1).1
  rcases isgn_cases x with ⟨hx, e⟩ | ⟨hx, e⟩ | ⟨hx, e⟩
  · have e1 : 0 < l1 := by rw [HL.out]; exact nf_len_pos (by omega)
    obtain rfl : g1 = true := by rw [HG.out]; simp [hx]
    clear HL HG hx h1
    go_enter Tryz.func116, Tryz.ntmps116
    go_wp2
    go_ret
    exact E.fin (by rw [e]; rfl)
  · obtain rfl : l1 = 0 := by rw [HL.out, hx]; rfl
    clear HL HG hx h1
    go_enter Tryz.func116, Tryz.ntmps116
    go_wp2
    go_ret
    exact E.fin (by rw [e]; rfl)
  · have e1 : 0 < l1 := by rw [HL.out]; exact nf_len_pos (by omega)
    obtain rfl : g1 = false := by rw [HG.out]; simp; omega
    clear HL HG hx h1
    go_enter Tryz.func116, Tryz.ntmps116
    go_wp2
    go_ret
    exact E.fin (by rw [e]; rfl)
theorem numMinusC {w : World} {g1 : Bool} {a1 : Option Addr} {l1 c1 k1 : Nat} {x : Int} [h1 : CZ w (.agg #[.bool g1, .slice a1 l1 c1]) x k1] :
    Calls Tryz.prog 265 #[.agg #[.bool g1, .slice a1 l1 c1]] w (CZRet w (-x) (k1)) := by
  have z1 := zz_of h1
  have i1 : CN w (.slice a1 l1 c1) x.natAbs k1 := ⟨z1.2⟩
  have HE : Hid (sgn (!g1) x.natAbs = -x) := by show _ = _; rw [z1.1]; exact sgn_not
  clear z1
  go_enter Tryz.func265, Tryz.ntmps265
  go_wp2_with (first
    | (go_at_call 119; (with_reducible refine Calls.cSg (makeC) ?_); intros))
  refine ret_bx rfl Tryz.underlying43 rfl (by kernel_rfl) rfl rfl rfl ?_
  exact CZRet.fin HE.out (by omega)
theorem numMulC {w : World} {g1 g2 : Bool} {a1 a2 : Option Addr} {l1 c1 l2 c2 k1 k2 : Nat} {x y : Int} [h1 : CZ w (.agg #[.bool g1, .slice a1 l1 c1]) x k1] [h2 : CZ w (.agg #[.bool g2, .slice a2 l2 c2]) y k2] (b : k1 ≤ 900000 ∧ k2 ≤ 900000) :
    Calls Tryz.prog 118 #[.agg #[.bool g1, .slice a1 l1 c1], .agg #[.bool g2, .slice a2 l2 c2]] w (CZRet w (x * y) (k1 + k2)) := by
  have z1 := zz_of h1
  have i1 : CN w (.slice a1 l1 c1) x.natAbs k1 := ⟨z1.2⟩
  have z2 := zz_of h2
  have i2 : CN w (.slice a2 l2 c2) y.natAbs k2 := ⟨z2.2⟩
  have HE : Hid (sgn (g1 != g2) (x.natAbs * y.natAbs) = x * y) := by show _ = _; rw [z1.1, z2.1]; exact sgn_mul
  clear z1 z2
  go_enter Tryz.func118, Tryz.ntmps118
  go_wp2_with fail
  refine rgn [w.heap.size + 1 + 1] [] fun hHeld => ?_
  refine tk 0 hHeld ?_
  refine tk 1 hHeld ?_
  refine tk 2 hHeld ?_
  refine tk 3 hHeld ?_
  refine tk 4 hHeld ?_
  refine tk 5 hHeld ?_
  refine tk 6 hHeld ?_
  refine tk 7 hHeld ?_
  refine tk 8 hHeld ?_
  refine st 9 fun K hK => ?_
  go_simp
  (with_reducible refine Calls.cN (numProductC (by omega)) ?_); intros
  refine hd hK ?_
  clear hHeld hK K
  intro hHeld
  refine st 10 fun K hK => ?_
  go_simp
  (with_reducible refine Calls.cSg (makeC) ?_); intros
  refine hd hK ?_
  clear hHeld hK K
  intro hHeld
  refine st 11 fun K hK => ?_
  go_simp
  refine hd hK ?_
  clear hHeld hK K
  intro hHeld
  refine dn ?_
  clear hHeld
  go_wp2
  refine ret_bx rfl Tryz.underlying43 rfl (by kernel_rfl) rfl rfl rfl ?_
  exact CZRet.fin HE.out (by omega)
theorem numAddC {w : World} {g1 g2 : Bool} {a1 a2 : Option Addr} {l1 c1 l2 c2 k1 k2 : Nat} {x y : Int} [h1 : CZ w (.agg #[.bool g1, .slice a1 l1 c1]) x k1] [h2 : CZ w (.agg #[.bool g2, .slice a2 l2 c2]) y k2] (b : k1 ≤ 900000 ∧ k2 ≤ 900000) :
    Calls Tryz.prog 117 #[.agg #[.bool g1, .slice a1 l1 c1], .agg #[.bool g2, .slice a2 l2 c2]] w (CZRet w (x + y) (max k1 k2 + 1)) := by
  have z1 := zz_of h1
  have i1 : CN w (.slice a1 l1 c1) x.natAbs k1 := ⟨z1.2⟩
  have z2 := zz_of h2
  have i2 : CN w (.slice a2 l2 c2) y.natAbs k2 := ⟨z2.2⟩
  by_cases hg : g1 = g2
  · subst hg
    have HE : Hid (sgn g1 (x.natAbs + y.natAbs) = x + y) := by show _ = _; have h := sgn_add (z1.1.symm.trans z2.1); rw [← z1.1] at h; exact h
    clear z1 z2
    go_enter Tryz.func117, Tryz.ntmps117
    go_wp2_with fail
    refine rgn [w.heap.size + 1 + 1] [] fun hHeld => ?_
    refine tk 0 hHeld ?_
    refine tk 1 hHeld ?_
    refine tk 2 hHeld ?_
    refine tk 3 hHeld ?_
    refine tk 4 hHeld ?_
    refine tk 5 hHeld ?_
    refine st 6 fun K hK => ?_
    go_simp
    (with_reducible refine Calls.cN (numSumC (by omega)) ?_); intros
    refine hd hK ?_
    clear hHeld hK K
    intro hHeld
    refine st 7 fun K hK => ?_
    go_simp
    (with_reducible refine Calls.cSg (makeC) ?_); intros
    refine hd hK ?_
    clear hHeld hK K
    intro hHeld
    refine st 8 fun K hK => ?_
    go_simp
    refine hd hK ?_
    clear hHeld hK K
    intro hHeld
    refine dn ?_
    clear hHeld
    go_wp2
    refine ret_bx rfl Tryz.underlying43 rfl (by kernel_rfl) rfl rfl rfl ?_
    exact CZRet.fin HE.out (by omega)
  · have hb0 : (g1 == g2) = false := by simpa using hg
    rw [z1.1, z2.1] at hg
    by_cases hl : x.natAbs < y.natAbs
    · have HE : Hid (sgn g2 (y.natAbs - x.natAbs) = x + y) := by show _ = _; rw [z2.1]; have := @sgn_less y x (Ne.symm hg) (by omega); rw [Int.add_comm]; exact this
      have hc := cmpN_ltB hl
      have hle : x.natAbs ≤ y.natAbs := by omega
      clear z1 z2 hg hl
      go_enter Tryz.func117, Tryz.ntmps117
      go_wp2_with (first
    | (go_at_call 139; (with_reducible refine Calls.cE (numCmpC) ?_); intros))
      refine rgn [w.heap.size + 1 + 1] [] fun hHeld => ?_
      refine tk 0 hHeld ?_
      refine tk 1 hHeld ?_
      refine tk 2 hHeld ?_
      refine tk 3 hHeld ?_
      refine tk 4 hHeld ?_
      refine tk 5 hHeld ?_
      refine st 6 fun K hK => ?_
      go_simp
      (with_reducible refine Calls.cN (numLessC (by omega) hle) ?_); intros
      refine hd hK ?_
      clear hHeld hK K
      intro hHeld
      refine st 7 fun K hK => ?_
      go_simp
      (with_reducible refine Calls.cSg (makeC) ?_); intros
      refine hd hK ?_
      clear hHeld hK K
      intro hHeld
      refine st 8 fun K hK => ?_
      go_simp
      refine hd hK ?_
      clear hHeld hK K
      intro hHeld
      refine dn ?_
      clear hHeld
      go_wp2
      refine ret_bx rfl Tryz.underlying43 rfl (by kernel_rfl) rfl rfl rfl ?_
      exact CZRet.fin HE.out (by omega)
    · have hle : y.natAbs ≤ x.natAbs := by omega
      have HE : Hid (sgn g1 (x.natAbs - y.natAbs) = x + y) := by show _ = _; rw [z1.1]; exact sgn_less hg hle
      have hc := cmpN_geB hle
      clear z1 z2 hg hl
      go_enter Tryz.func117, Tryz.ntmps117
      go_wp2_with (first
    | (go_at_call 139; (with_reducible refine Calls.cE (numCmpC) ?_); intros))
      refine rgn [w.heap.size + 1 + 1] [] fun hHeld => ?_
      refine tk 0 hHeld ?_
      refine tk 1 hHeld ?_
      refine tk 2 hHeld ?_
      refine tk 3 hHeld ?_
      refine tk 4 hHeld ?_
      refine tk 5 hHeld ?_
      refine st 6 fun K hK => ?_
      go_simp
      (with_reducible refine Calls.cN (numLessC (by omega) hle) ?_); intros
      refine hd hK ?_
      clear hHeld hK K
      intro hHeld
      refine st 7 fun K hK => ?_
      go_simp
      (with_reducible refine Calls.cSg (makeC) ?_); intros
      refine hd hK ?_
      clear hHeld hK K
      intro hHeld
      refine st 8 fun K hK => ?_
      go_simp
      refine hd hK ?_
      clear hHeld hK K
      intro hHeld
      refine dn ?_
      clear hHeld
      go_wp2
      refine ret_bx rfl Tryz.underlying43 rfl (by kernel_rfl) rfl rfl rfl ?_
      exact CZRet.fin HE.out (by omega)
theorem numCompareC {w : World} {g1 g2 : Bool} {a1 a2 : Option Addr} {l1 c1 l2 c2 k1 k2 : Nat} {x y : Int} [h1 : CZ w (.agg #[.bool g1, .slice a1 l1 c1]) x k1] [h2 : CZ w (.agg #[.bool g2, .slice a2 l2 c2]) y k2] (b : k1 ≤ 900000 ∧ k2 ≤ 900000) :
    Calls Tryz.prog 277 #[.agg #[.bool g1, .slice a1 l1 c1], .agg #[.bool g2, .slice a2 l2 c2]] w (fun e w' => e = .returned (.int .i64 (icmp x y)) ∧ Below w.heap.size w w') := by
  have HE := Lib.hid (show isgn (x + -y) = icmp x y by unfold isgn icmp; repeat' split; all_goals omega)
  go_enter Tryz.func277, Tryz.ntmps277
  go_wp2_with fail
  refine rgn [] [] fun hHeld => ?_
  refine tk 0 hHeld ?_
  refine tk 1 hHeld ?_
  refine st 2 fun K hK => ?_
  go_simp
  (with_reducible refine Calls.cZ (numMinusC) ?_); intros
  refine hd hK ?_
  clear hHeld hK K
  intro hHeld
  refine st 3 fun K hK => ?_
  go_simp
  (with_reducible refine Calls.cZ (numAddC (by omega)) ?_); intros
  refine hd hK ?_
  clear hHeld hK K
  intro hHeld
  refine st 4 fun K hK => ?_
  go_simp
  (with_reducible refine Calls.cE (numSignC) ?_); intros
  refine hd hK ?_
  clear hHeld hK K
  intro hHeld
  refine tk 5 hHeld ?_
  refine dn ?_
  clear hHeld
  go_wp2
  go_ret
  exact E.fin (by rw [HE.out]; rfl)
theorem refIC {w : World} {g1 : Bool} {a1 : Option Addr} {l1 c1 k1 : Nat} {x : Int} [h1 : CI w (.agg #[.bool g1, .slice a1 l1 c1]) x k1] (b : k1 ≤ 900000) :
    Calls Tryz.prog 120 #[.agg #[.bool g1, .slice a1 l1 c1]] w (CZRet w x (k1)) := by
  obtain ⟨m, r1, rfl⟩ := zi_of h1
  have i1 : CR w (.slice a1 l1 c1) m k1 := ⟨r1⟩
  clear r1
  go_enter Tryz.func120, Tryz.ntmps120
  go_wp2_with fail
  refine rgn [w.heap.size + 1] [] fun hHeld => ?_
  refine tk 0 hHeld ?_
  refine tk 1 hHeld ?_
  refine tk 2 hHeld ?_
  refine tk 3 hHeld ?_
  refine st 4 fun K hK => ?_
  go_simp
  (with_reducible refine Calls.cN (refNC (by omega)) ?_); intros
  refine hd hK ?_
  clear hHeld hK K
  intro hHeld
  refine st 5 fun K hK => ?_
  go_simp
  (with_reducible refine Calls.cSg (makeC) ?_); intros
  refine hd hK ?_
  clear hHeld hK K
  intro hHeld
  refine st 6 fun K hK => ?_
  go_simp
  refine hd hK ?_
  clear hHeld hK K
  intro hHeld
  refine dn ?_
  clear hHeld
  go_wp2
  refine ret_bx rfl Tryz.underlying43 rfl (by kernel_rfl) rfl rfl rfl ?_
  exact CZRet.fin rfl (by omega)
theorem toIC {w : World} {g1 : Bool} {a1 : Option Addr} {l1 c1 k1 : Nat} {x : Int} [h1 : CZ w (.agg #[.bool g1, .slice a1 l1 c1]) x k1] (b : k1 ≤ 900000) :
    Calls Tryz.prog 101 #[.agg #[.bool g1, .slice a1 l1 c1]] w (CZRet w x (k1)) := by
  have z1 := zz_of h1
  have i1 : CN w (.slice a1 l1 c1) x.natAbs k1 := ⟨z1.2⟩
  have HG := Lib.hid z1.1
  clear z1
  go_enter Tryz.func101, Tryz.ntmps101
  go_wp2_with fail
  refine rgn [w.heap.size + 1] [] fun hHeld => ?_
  refine tk 0 hHeld ?_
  refine tk 1 hHeld ?_
  refine tk 2 hHeld ?_
  refine tk 3 hHeld ?_
  refine st 4 fun K hK => ?_
  go_simp
  (with_reducible refine Calls.cN (refToNC (by omega)) ?_); intros
  refine hd hK ?_
  clear hHeld hK K
  intro hHeld
  refine tk 5 hHeld ?_
  refine st 6 fun K hK => ?_
  go_simp
  refine hd hK ?_
  clear hHeld hK K
  intro hHeld
  refine dn ?_
  clear hHeld
  go_wp2
  refine ret_bx rfl Tryz.underlying27 rfl (by kernel_rfl) rfl rfl rfl ?_
  exact CZRet.fin (hx := CZ.mkA rfl HG.out) rfl (by omega)
theorem sameIC {w : World} {g1 g2 : Bool} {a1 a2 : Option Addr} {l1 c1 l2 c2 k1 k2 : Nat} {x y : Int} [h1 : CZ w (.agg #[.bool g1, .slice a1 l1 c1]) x k1] [h2 : CZ w (.agg #[.bool g2, .slice a2 l2 c2]) y k2] (e : x = y) :
    Calls Tryz.prog 99 #[.agg #[.bool g1, .slice a1 l1 c1], .agg #[.bool g2, .slice a2 l2 c2]] w (fun e w' => e = .returned (.bool true) ∧ Below w.heap.size w w') := by
  subst e
  have z1 := zz_of h1
  have z2 := zz_of h2
  have i1 : CN w (.slice a1 l1 c1) x.natAbs k1 := ⟨z1.2⟩
  have i2 : CN w (.slice a2 l2 c2) x.natAbs k2 := ⟨z2.2⟩
  obtain rfl : g2 = g1 := by rw [z1.1, z2.1]
  clear z1 z2
  go_enter Tryz.func99, Tryz.ntmps99
  go_wp2_with (first
    | (go_at_call 100; (with_reducible refine Calls.cE (sameNC rfl) ?_); intros))
  go_ret
  exact E.fin rfl
end Go.Proofs.YtdlnoeegboapkaaGreatDoor

/- Plain laws on rational numbers: numerator and denominator of sums, products, quotients; the greatest common divisor of two rational numbers. No program is in sight here. -/
namespace Go.Proofs.YtdlnoeegboapkaaGreatDoor

theorem mk_den (z : Int) {m : Nat} (hm : m ≠ 0) : (mkRat z m).den = m / Nat.gcd z.natAbs m := by
  rw [Rat.den_mkRat, if_neg hm, Nat.gcd_comm]
theorem mk_num (z : Int) {m : Nat} (hm : m ≠ 0) : (mkRat z m).num = z / ((Nat.gcd z.natAbs m : Nat) : Int) := by
  rw [Rat.num_mkRat, if_neg hm, Nat.gcd_comm]
theorem int_div_abs (z : Int) (g : Nat) (h : g ∣ z.natAbs) : (z / (g : Int)).natAbs = z.natAbs / g := by
  rcases Nat.eq_zero_or_pos g with h0 | h0
  · subst h0; simp
  · obtain ⟨k, hk⟩ := h
    have : z = (g : Int) * k ∨ z = -((g : Int) * k) := by
      rcases Int.natAbs_eq z with e | e
      · left; rw [e, hk]; simp
      · right; rw [e, hk]; simp
    have hg : (g : Int) ≠ 0 := by omega
    rw [hk, Nat.mul_div_cancel_left _ h0]
    rcases this with e | e
    · rw [e, Int.mul_ediv_cancel_left _ hg]; simp
    · rw [e, show -((g : Int) * k) = (g : Int) * (-(k : Int)) by simp [Int.mul_neg], Int.mul_ediv_cancel_left _ hg]; simp
theorem mk_abs (z : Int) {m : Nat} (hm : m ≠ 0) : (mkRat z m).num.natAbs = z.natAbs / Nat.gcd z.natAbs m := by
  rw [mk_num z hm, int_div_abs _ _ (Nat.gcd_dvd_left _ _)]
theorem mk_neg (z : Int) {m : Nat} (hm : m ≠ 0) : (mkRat z m).num < 0 ↔ z < 0 := by
  rw [mk_num z hm]
  have hg : 0 < Nat.gcd z.natAbs m := Nat.gcd_pos_of_pos_right _ (Nat.pos_of_ne_zero hm)
  constructor
  · intro h
    rcases Int.lt_or_le z 0 with h' | h'
    · exact h'
    · have := Int.ediv_nonneg h' (show (0 : Int) ≤ ((Nat.gcd z.natAbs m : Nat) : Int) by omega); omega
  · intro h
    exact Int.ediv_neg_of_neg_of_pos h (by omega)
theorem mk_eq0 (z : Int) {m : Nat} (hm : m ≠ 0) : mkRat z m = 0 ↔ z = 0 := by
  rw [Rat.mkRat_eq_zero hm]
theorem mk_zero (m : Nat) : mkRat 0 m = 0 := by simp
theorem mk_one (z : Int) : mkRat z 1 = (z : Rat) := Rat.mkRat_one z
theorem rat_add_mk (x y : Rat) : x + y = mkRat (x.num * (y.den : Int) + y.num * (x.den : Int)) (x.den * y.den) := by
  rw [Rat.add_def, Rat.normalize_eq_mkRat]
theorem rat_mul_mk (x y : Rat) : x * y = mkRat (x.num * y.num) (x.den * y.den) := by
  rw [Rat.mul_def, Rat.normalize_eq_mkRat]
theorem rat_add1 {x y : Rat} (hx : x.den = 1) (hy : y.den = 1) : x + y = ((x.num + y.num : Int) : Rat) := by
  rw [rat_add_mk, hx, hy, ← mk_one]; simp
theorem rat_mul1 {x y : Rat} (hx : x.den = 1) (hy : y.den = 1) : x * y = ((x.num * y.num : Int) : Rat) := by
  rw [rat_mul_mk, hx, hy, ← mk_one]
theorem rat_inv_mk (x : Rat) (h : x ≠ 0) : x⁻¹ = mkRat (if x.num < 0 then -(x.den : Int) else (x.den : Int)) x.num.natAbs := by
  have h0 : x.num ≠ 0 := fun e => h (Rat.num_eq_zero.1 e)
  rw [Rat.inv_def]
  split
  · rename_i hn
    rw [show x.num = -((x.num.natAbs : Nat) : Int) by omega, Rat.divInt_neg']
    rw [Rat.divInt_ofNat]; simp
  · rw [show x.num = ((x.num.natAbs : Nat) : Int) by omega, Rat.divInt_ofNat]; simp
theorem rat_div_mk (x y : Rat) (h : y ≠ 0) : x / y = mkRat (x.num * (if y.num < 0 then -(y.den : Int) else (y.den : Int))) (x.den * y.num.natAbs) := by
  have h0 : y.num ≠ 0 := fun e => h (Rat.num_eq_zero.1 e)
  rw [Rat.div_def, rat_inv_mk y h]
  conv => lhs; rw [← Rat.mkRat_self x]
  rw [Rat.mkRat_mul_mkRat]
theorem inv_num (x : Rat) : (x⁻¹).num = x.num.sign * x.den := Rat.num_inv x
theorem inv_den {x : Rat} (h : x.num ≠ 0) : (x⁻¹).den = x.num.natAbs := by rw [Rat.den_inv, if_neg h]
/-- The sign of a rational number. -/
def rsgn (x : Rat) : Int := if x.num < 0 then -1 else if x.num = 0 then 0 else 1
/-- How two rational numbers compare. -/
def rcmp (x y : Rat) : Int := rsgn (x - y)
theorem den_pos' (x : Rat) : 0 < x.den := Nat.pos_of_ne_zero x.den_nz
theorem sub_same_den {x y : Rat} (h : x.den = y.den) : rcmp x y = if x.num < y.num then -1 else if x.num = y.num then 0 else 1 := by
  unfold rcmp rsgn
  have hd := den_pos' y
  have e : x - y = mkRat ((x.num - y.num) * (y.den : Int)) (y.den * y.den) := by
    rw [Rat.sub_eq_add_neg, rat_add_mk, Rat.neg_num, Rat.neg_den, h]
    congr 1; rw [Int.sub_mul, Int.neg_mul]; omega
  have hdd : y.den * y.den ≠ 0 := Nat.mul_ne_zero (by omega) (by omega)
  rw [e]
  have h1 := mk_neg ((x.num - y.num) * (y.den : Int)) hdd
  have h2 := mk_eq0 ((x.num - y.num) * (y.den : Int)) hdd
  rw [← Rat.num_eq_zero] at h2
  have h3 : (x.num - y.num) * (y.den : Int) < 0 ↔ x.num < y.num := by
    constructor
    · intro h'
      rcases Int.lt_or_le x.num y.num with h'' | h''
      · exact h''
      · have := Int.mul_nonneg (show 0 ≤ x.num - y.num by omega) (show (0 : Int) ≤ y.den by omega); omega
    · intro h'; exact Int.mul_neg_of_neg_of_pos (by omega) (by omega)
  have h4 : (x.num - y.num) * (y.den : Int) = 0 ↔ x.num = y.num := by
    rw [Int.mul_eq_zero]; omega
  simp only [h1, h2, h3, h4]
theorem rsgn_zero {x : Rat} : rsgn x = 0 ↔ x = 0 := by
  unfold rsgn
  rw [← Rat.num_eq_zero]
  split
  · omega
  · split <;> omega
theorem rsgn_neg {x : Rat} : rsgn x < 0 ↔ x < 0 := by
  unfold rsgn
  rw [show x < 0 ↔ x.num < 0 by rw [← Rat.not_le, ← Rat.num_nonneg]; omega]
  split
  · omega
  · split <;> omega
theorem rsgn_pos {x : Rat} : 0 < rsgn x ↔ 0 < x := by
  unfold rsgn
  have e : 0 < x ↔ 0 < x.num := by
    have := @Rat.neg_le_neg_iff 0 x
    rw [show (-0 : Rat) = 0 from rfl] at this
    rw [← Rat.not_le, ← this, ← Rat.num_nonneg, Rat.neg_num]; omega
  rw [e]
  split
  · omega
  · split <;> omega
theorem rsgn_cases (x : Rat) : (rsgn x = -1 ∧ x < 0) ∨ (rsgn x = 0 ∧ x = 0) ∨ (rsgn x = 1 ∧ 0 < x) := by
  have h1 := @rsgn_neg x
  have h2 := @rsgn_zero x
  have h3 := @rsgn_pos x
  have h4 : rsgn x = -1 ∨ rsgn x = 0 ∨ rsgn x = 1 := by unfold rsgn; split; (left; rfl); split; (right; left; rfl); (right; right; rfl)
  rcases h4 with e | e | e
  · left; exact ⟨e, h1.1 (by omega)⟩
  · right; left; exact ⟨e, h2.1 e⟩
  · right; right; exact ⟨e, h3.1 (by omega)⟩
/-- The greatest number of which both are integer multiples. -/
def rgcd (x y : Rat) : Rat := mkRat ((Nat.gcd (x.num.natAbs * y.den) (y.num.natAbs * x.den) : Nat) : Int) (x.den * y.den)
theorem rgcd1 {x y : Rat} (hx : x.den = 1) (hy : y.den = 1) : rgcd x y = ((Nat.gcd x.num.natAbs y.num.natAbs : Nat) : Int) := by
  unfold rgcd; rw [hx, hy, ← mk_one]; simp
theorem floor_eq (x : Rat) : x.floor = x.num / (x.den : Int) := Rat.floor_def x
end Go.Proofs.YtdlnoeegboapkaaGreatDoor
