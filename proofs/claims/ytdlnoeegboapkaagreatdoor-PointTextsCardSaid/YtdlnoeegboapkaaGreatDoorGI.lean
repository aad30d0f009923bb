/-
  Texts of this claim, joined: NumGcd, Int3, Con0, Tail.
-/
import Derived.Test.YtdlnoeegboapkaaGreatDoorGH
/- The reference's Common and Root (package bspregionnum). -/
namespace Go.Proofs.YtdlnoeegboapkaaGreatDoor
open Go.RowKit
set_option maxRecDepth 100000
set_option maxHeartbeats 40000000
set_option synthInstance.maxSize 100000
set_option synthInstance.maxHeartbeats 1000000

theorem gcd_len {m n k : Nat} (h1 : (nf m).length ≤ k) (h2 : (nf n).length ≤ k) : (nf (Nat.gcd m n)).length ≤ k := by
  by_cases h0 : m = 0
  · subst h0; rw [Nat.gcd_zero_left]; exact h2
  · exact len_le (Nat.gcd_le_left _ (Nat.pos_of_ne_zero h0)) h1
theorem commonW {w : World} {u v : Value} {m n k1 k2 : Nat} (hu : Nn w u m k1) (hv : Nn w v n k2) (hk1 : k1 ≤ 200000) (hk2 : k2 ≤ 200000) :
    Calls Tryz.prog 138 #[u, v] w (RetN w (Nat.gcd m n) (max k1 k2)) := by
  obtain ⟨a1, c1, rfl⟩ := hu.1.sl
  obtain ⟨a2, c2, rfl⟩ := hv.1.sl
  have hl1 := Nat.le_trans hu.2 (Nat.le_max_left k1 k2)
  have hl2 := Nat.le_trans hv.2 (Nat.le_max_right k1 k2)
  have hK : max k1 k2 ≤ 200000 := by omega
  have HGL := Lib.hid (gcd_len hl1 hl2)
  have HL1 := Lib.hid hl1
  have HL2 := Lib.hid hl2
  have CW := Lib.hid (numWord2W hu)
  have CV := Lib.hid (fun (W : World) (h : Below w.heap.size w W) => numWord2W (hv.keep h))
  have HU := Lib.hid hu.1
  have HV := Lib.hid hv.1
  clear hu hv hl1 hl2 hk1 hk2
  generalize max k1 k2 = K at *
  by_cases hs : m < 18446744073709551616 ∧ n < 18446744073709551616
  · obtain ⟨hm1, hn1⟩ := hs
    have HU1 := Lib.hid (uintV_lt hm1)
    have HU2 := Lib.hid (uintV_lt hn1)
    go_enter Tryz.func138, Tryz.ntmps138
    go_wp2_with fail
    refine CW.out.mono ?_
    rintro e w1 ⟨rfl, j1, rfl⟩
    rw [HU1.out]
    go_wp2_with fail
    refine (CV.out _ (blw_drewN (Below.refl _ _) _)).mono ?_
    rintro e w2 ⟨rfl, j2, rfl⟩
    rw [HU2.out]
    have B1 := Lib.hid (show Below w.heap.size w (w.drewN (j1 + j2)) from blw_drewN (Below.refl _ _) _)
    go_wp2_with fail
    generalize w.drewN (j1 + j2) = w1 at *
    go_loopw [5, 7] (fun x y wx => ∃ a b : Int, x = .int .u64 a ∧ y = .int .u64 b ∧ 0 ≤ a ∧ a < 18446744073709551616 ∧ 0 ≤ b ∧ b < 18446744073709551616 ∧ Hid (Below w.heap.size w wx) ∧ Hid (Nat.gcd a.toNat b.toNat = Nat.gcd m n)) (fun _ y _ => (intOf y).toNat)
    case atStart => exact ⟨(m : Int), (n : Int), rfl, rfl, by omega, by omega, by omega, by omega, B1, rfl⟩
    case round =>
      obtain ⟨a, b, rfl, rfl, ha0, ha, hb0, hb, hW2, hG2⟩ := hrel
      by_cases h0 : b = 0
      · have HE : Hid (a.toNat = Nat.gcd m n) := by show _ = _; rw [← hG2.out, h0]; simp
        subst h0
        go_wp2_with fail
        refine (wordZ _ _ a.toNat (by omega) (by omega)).mono ?_
        rintro e w4 ⟨z, rfl, hz, b4⟩
        go_wp2
        go_ret
        rw [HE.out] at hz
        exact .mk (.of_own hz HGL.out) (blw_trans hW2.out b4)
      · obtain ⟨g1, g2⟩ := gcd_step (by omega : b.toNat ≠ 0) hG2.out
        have HG := Lib.hid g1
        have HL := Lib.hid g2
        have hb1 : 0 < b := by omega
        have e2 : a % b = ((a.toNat % b.toNat : Nat) : Int) := by rw [Int.natCast_emod, Int.toNat_of_nonneg ha0, Int.toNat_of_nonneg hb0]
        have E2 := Lib.hid e2
        have e3 : (a % b).toNat = a.toNat % b.toNat := by rw [e2]; rfl
        have E3 := Lib.hid e3
        clear g1 g2 e2 e3 h0
        go_wp2_with fail
        have hq1 : (1 : Int) ≤ b := by omega
        have hq0 : (b == 0) = false := by rw [beq_eq_false_iff_ne]; omega
        have hqz : ¬ (b = 0) := by omega
        have m1 := Int.emod_nonneg a hqz
        have m2 := Int.emod_lt_of_pos a hb1
        have em : a.tmod b = a % b := Int.tmod_eq_emod_of_nonneg ha0
        go_quiet (fail)
        go_wp2_with fail
        go_roundw
        case rel => exact ⟨b, a % b, rfl, by first | rfl | rw [em], by omega, by omega, m1, by omega, blw_drewN hW2.out _, by show _ = _; rw [E3.out]; exact HG.out⟩
        case measure => simp only [intOf]; first | (rw [E3.out]; exact HL.out) | (rw [em, E3.out]; exact HL.out)
  · have hs : 18446744073709551616 ≤ m ∨ (m < 18446744073709551616 ∧ 18446744073709551616 ≤ n) := by omega
    go_enter Tryz.func138, Tryz.ntmps138
    rcases hs with hs | ⟨hs1, hs2⟩
    · have HU1 := Lib.hid (uintV_ge hs)
      clear hs
      go_wp2_with fail
      refine CW.out.mono ?_
      rintro e w1 ⟨rfl, j1, rfl⟩
      rw [HU1.out]
      have B1 := Lib.hid (show Below w.heap.size w (w.drewN j1) from blw_drewN (Below.refl _ _) _)
      generalize w.drewN j1 = w1 at *
      go_wp2_with fail
      go_loopw [0, 1] (fun x y wr => ∃ p q : Nat, Hid (∃ a l c, x = .slice a l c ∧ Rd wr (.slice a l c) (nf p)) ∧ Hid (∃ a l c, y = .slice a l c ∧ Rd wr (.slice a l c) (nf q)) ∧ Hid (Below w.heap.size w wr) ∧ Hid (Nat.gcd p q = Nat.gcd m n) ∧ Hid ((nf p).length ≤ K) ∧ Hid ((nf q).length ≤ K)) (fun _ y wr => rdVal wr y)
      case atStart => exact ⟨m, n, ⟨_, _, _, rfl, HU.out.keep B1.out⟩, ⟨_, _, _, rfl, HV.out.keep B1.out⟩, B1, rfl, HL1, HL2⟩
      case round =>
        obtain ⟨p, q, hP, hQ, hW, hG, hlp, hlq⟩ := hrel
        obtain ⟨ax, lx, cx, rfl, hx⟩ := hP.out
        obtain ⟨ay, ly, cy, rfl, hy⟩ := hQ.out
        have HX := Lib.hid hx
        have HY := Lib.hid hy
        have hly := hy.len
        clear hP hQ hx hy
        by_cases h0 : q = 0
        · have HE : Hid (p = Nat.gcd m n) := by show _ = _; rw [← hG.out, h0, Nat.gcd_zero_right]
          have hz : ¬ ((0 : Int) < (ly : Int)) := by rw [hly, h0]; decide
          have HLP := Lib.hid hlp.out
          clear h0 hly
          go_wp2_with (at_builtin; go_loud (refine app_u32 _ rfl (.tmp 42) (.tmp 43) 41 41 rfl Tryz.underlying41 Tryz.underlying41 wr.heap.size _ _ [] (nf p) rfl rfl (own_lit wr [] dig_nil (by simp) _ rfl) (HX.out.keep (blw_one _ _)) (by have := HLP.out; simp; omega) (by simp) ?_); intro v1 w3 o1 g1 _)
          have B3 := own_grown (own_lit wr [] dig_nil (by simp) _ rfl) (blw_one _ _) g1 (Nat.le_refl _)
          go_ret
          rw [List.nil_append, HE.out] at o1
          exact .mk (.of_own o1 HGL.out) (blw_trans hW.out B3)
        · have hz : (0 : Int) < (ly : Int) := by rw [hly]; have := nf_len_pos h0; omega
          obtain ⟨g1, g2⟩ := gcd_step h0 hG.out
          have HG := Lib.hid g1
          have HL := Lib.hid g2
          have CD := Lib.hid (divideW (w := wr) ⟨HX.out, hlp.out⟩ ⟨HY.out, hlq.out⟩ h0 hK)
          clear g1 g2 h0 hly
          go_wp2_with fail
          refine CD.out.mono ?_
          rintro e w3 ⟨aq, lq, cq, ar, lr, cr, rfl, _, hr, b3⟩
          have HR := Lib.hid hr.1
          have hV := rdVal_eq HY.out
          have hV2 := rdVal_eq hr.1
          rw [val_nf] at hV hV2
          have HV1 := Lib.hid hV
          have HV2 := Lib.hid hV2
          have HB3 := Lib.hid b3
          clear hr hV hV2 b3
          go_wp2_with fail
          go_roundw
          case rel => exact ⟨q, p % q, ⟨_, _, _, rfl, HY.out.keep HB3.out⟩, ⟨_, _, _, rfl, HR.out⟩, blw_trans hW.out HB3.out, HG, hlq, len_le (Nat.mod_le _ _) hlp.out⟩
          case measure => rw [HV1.out, HV2.out]; exact HL.out
    · have HU1 := Lib.hid (uintV_lt hs1)
      have HU2 := Lib.hid (uintV_ge hs2)
      clear hs1 hs2
      go_wp2_with fail
      refine CW.out.mono ?_
      rintro e w1 ⟨rfl, j1, rfl⟩
      rw [HU1.out]
      go_wp2_with fail
      refine (CV.out _ (blw_drewN (Below.refl _ _) _)).mono ?_
      rintro e w2 ⟨rfl, j2, rfl⟩
      rw [HU2.out]
      have B1 := Lib.hid (show Below w.heap.size w (w.drewN (j1 + j2)) from blw_drewN (Below.refl _ _) _)
      go_wp2_with fail
      generalize w.drewN (j1 + j2) = w1 at *
      go_wp2_with fail
      go_loopw [0, 1] (fun x y wr => ∃ p q : Nat, Hid (∃ a l c, x = .slice a l c ∧ Rd wr (.slice a l c) (nf p)) ∧ Hid (∃ a l c, y = .slice a l c ∧ Rd wr (.slice a l c) (nf q)) ∧ Hid (Below w.heap.size w wr) ∧ Hid (Nat.gcd p q = Nat.gcd m n) ∧ Hid ((nf p).length ≤ K) ∧ Hid ((nf q).length ≤ K)) (fun _ y wr => rdVal wr y)
      case atStart => exact ⟨m, n, ⟨_, _, _, rfl, HU.out.keep B1.out⟩, ⟨_, _, _, rfl, HV.out.keep B1.out⟩, B1, rfl, HL1, HL2⟩
      case round =>
        obtain ⟨p, q, hP, hQ, hW, hG, hlp, hlq⟩ := hrel
        obtain ⟨ax, lx, cx, rfl, hx⟩ := hP.out
        obtain ⟨ay, ly, cy, rfl, hy⟩ := hQ.out
        have HX := Lib.hid hx
        have HY := Lib.hid hy
        have hly := hy.len
        clear hP hQ hx hy
        by_cases h0 : q = 0
        · have HE : Hid (p = Nat.gcd m n) := by show _ = _; rw [← hG.out, h0, Nat.gcd_zero_right]
          have hz : ¬ ((0 : Int) < (ly : Int)) := by rw [hly, h0]; decide
          have HLP := Lib.hid hlp.out
          clear h0 hly
          go_wp2_with (at_builtin; go_loud (refine app_u32 _ rfl (.tmp 42) (.tmp 43) 41 41 rfl Tryz.underlying41 Tryz.underlying41 wr.heap.size _ _ [] (nf p) rfl rfl (own_lit wr [] dig_nil (by simp) _ rfl) (HX.out.keep (blw_one _ _)) (by have := HLP.out; simp; omega) (by simp) ?_); intro v1 w3 o1 g1 _)
          have B3 := own_grown (own_lit wr [] dig_nil (by simp) _ rfl) (blw_one _ _) g1 (Nat.le_refl _)
          go_ret
          rw [List.nil_append, HE.out] at o1
          exact .mk (.of_own o1 HGL.out) (blw_trans hW.out B3)
        · have hz : (0 : Int) < (ly : Int) := by rw [hly]; have := nf_len_pos h0; omega
          obtain ⟨g1, g2⟩ := gcd_step h0 hG.out
          have HG := Lib.hid g1
          have HL := Lib.hid g2
          have CD := Lib.hid (divideW (w := wr) ⟨HX.out, hlp.out⟩ ⟨HY.out, hlq.out⟩ h0 hK)
          clear g1 g2 h0 hly
          go_wp2_with fail
          refine CD.out.mono ?_
          rintro e w3 ⟨aq, lq, cq, ar, lr, cr, rfl, _, hr, b3⟩
          have HR := Lib.hid hr.1
          have hV := rdVal_eq HY.out
          have hV2 := rdVal_eq hr.1
          rw [val_nf] at hV hV2
          have HV1 := Lib.hid hV
          have HV2 := Lib.hid hV2
          have HB3 := Lib.hid b3
          clear hr hV hV2 b3
          go_wp2_with fail
          go_roundw
          case rel => exact ⟨q, p % q, ⟨_, _, _, rfl, HY.out.keep HB3.out⟩, ⟨_, _, _, rfl, HR.out⟩, blw_trans hW.out HB3.out, HG, hlq, len_le (Nat.mod_le _ _) hlp.out⟩
          case measure => rw [HV1.out, HV2.out]; exact HL.out

theorem root_start (m : Nat) : m < (0 + 2 ^ ((nbits m + 1) / 2 + 1)) * (0 + 2 ^ ((nbits m + 1) / 2 + 1)) := by
  rw [Nat.zero_add, ← Nat.pow_add]
  exact Nat.lt_of_lt_of_le (nbits_lt m) (Nat.pow_le_pow_right (by omega) (by omega))
theorem root_len {r m k : Nat} (h : r * r ≤ m) (hk : (nf m).length ≤ k) : (nf r).length ≤ k := by
  refine len_le ?_ hk
  rcases Nat.eq_zero_or_pos r with h0 | h0
  · omega
  · exact Nat.le_trans (Nat.le_mul_of_pos_left r h0) h
/-- A root is returned. -/
def RetRoot (w : World) (m k : Nat) (e : Ending) (w' : World) : Prop := ∃ r, IsRoot m r ∧ RetN w r k e w'
end Go.Proofs.YtdlnoeegboapkaaGreatDoor

/- The reference's integers and their conversions: contracts of bspregionnum.Make .. Floor and of bspregionref01. printed by a small program (mkint3.py). -/
namespace Go.Proofs.YtdlnoeegboapkaaGreatDoor
open Go.RowKit

theorem sgn_not {x : Int} : sgn (!decide (x < 0)) x.natAbs = -x := by
  unfold sgn
  by_cases h : x < 0 <;> simp [h] <;> omega
theorem sgn_mul {x y : Int} : sgn (decide (x < 0) != decide (y < 0)) (x.natAbs * y.natAbs) = x * y := by
  have h : sgn (decide (x < 0) != decide (y < 0)) (x.natAbs * y.natAbs) = sgn (decide (x < 0)) x.natAbs * sgn (decide (y < 0)) y.natAbs := by
    cases decide (x < 0) <;> cases decide (y < 0) <;> simp [sgn, Int.neg_mul, Int.mul_neg]
  rw [h, sgn_of, sgn_of]
theorem sgn_add {x y : Int} (h : decide (x < 0) = decide (y < 0)) : sgn (decide (x < 0)) (x.natAbs + y.natAbs) = x + y := by
  have h' : sgn (decide (x < 0)) (x.natAbs + y.natAbs) = sgn (decide (x < 0)) x.natAbs + sgn (decide (y < 0)) y.natAbs := by
    rw [h]; cases decide (y < 0) <;> simp [sgn] <;> omega
  rw [h', sgn_of, sgn_of]
theorem sgn_less {x y : Int} (h : decide (x < 0) ≠ decide (y < 0)) (hl : y.natAbs ≤ x.natAbs) : sgn (decide (x < 0)) (x.natAbs - y.natAbs) = x + y := by
  have h' : sgn (decide (x < 0)) (x.natAbs - y.natAbs) = sgn (decide (x < 0)) x.natAbs + sgn (decide (y < 0)) y.natAbs := by
    revert h; cases decide (x < 0) <;> cases decide (y < 0) <;> simp [sgn] <;> omega
  rw [h', sgn_of, sgn_of]
theorem cmpN_ltB {m n : Nat} (h : m < n) : (cmpN m n < 0) ↔ True := by rw [cmpN_lt h]; decide
theorem cmpN_geB {m n : Nat} (h : n ≤ m) : (cmpN m n < 0) ↔ False := by
  rcases Nat.lt_or_ge n m with h' | h'
  · rw [cmpN_gt h']; decide
  · rw [cmpN_eq (by omega)]; decide
end Go.Proofs.YtdlnoeegboapkaaGreatDoor

/- Contracts of layers 1 and 2 and of the reference's numbers, in the form that instance search serves. printed by a small program (mkcon.py). -/
namespace Go.Proofs.YtdlnoeegboapkaaGreatDoor
open Go.RowKit

theorem Calls.cE {P : Program} {f : FuncId} {args : Array Value} {w : World} {v : Value} {K : Ending → World → Prop} (h : Calls P f args w (fun e w' => e = .returned v ∧ Below w.heap.size w w'))
    (hK : ∀ w' [Kp1 w w'], K (.returned v) w') : Calls P f args w K := by
  refine h.mono ?_
  rintro e w' ⟨rfl, hb⟩
  exact @hK w' ⟨hb⟩
theorem Calls.cS {P : Program} {f : FuncId} {args : Array Value} {w : World} {v : Value} {K : Ending → World → Prop} (h : Calls P f args w (fun e w' => e = .returned v ∧ w = w')) (hK : K (.returned v) w) : Calls P f args w K := Calls.kS h hK
theorem Calls.cR {P : Program} {f : FuncId} {args : Array Value} {w : World} {n k : Nat} {K : Ending → World → Prop} (h : Calls P f args w (RetR w n k))
    (hK : ∀ w' [Kp1 w w'] a l c [CR w' (.slice a l c) n k], K (.returned (.slice a l c)) w') : Calls P f args w K := by
  refine h.mono ?_
  rintro e w' ⟨a, l, c, rfl, hn, hb⟩
  exact @hK w' ⟨hb⟩ a l c ⟨hn⟩
theorem E.fin {w w' : World} {v v' : Value} [b : Kp w w'] (e : v = v') : (fun e w' => e = Ending.returned v' ∧ Below w.heap.size w w') (.returned v) w' := by
  subst e; exact ⟨rfl, b.out⟩
theorem CN.cast {W : World} {v : Value} {n n' : Nat} {k k' : Nat} (h : CN W v n k) (e : n = n') (b : k ≤ k') : CN W v n' k' := by
  subst e; exact ⟨h.out.mono b⟩
theorem CR.cast {W : World} {v : Value} {n n' : Nat} {k k' : Nat} (h : CR W v n k) (e : n = n') (b : k ≤ k') : CR W v n' k' := by
  subst e; exact ⟨h.out.mono b⟩
theorem CZ.cast {W : World} {v : Value} {n n' : Int} {k k' : Nat} (h : CZ W v n k) (e : n = n') (b : k ≤ k') : CZ W v n' k' := by
  subst e; exact ⟨by obtain ⟨g, a, l, c, e, h'⟩ := h.out; exact ⟨g, a, l, c, e, h'.cast rfl b⟩⟩
theorem CI.cast {W : World} {v : Value} {n n' : Int} {k k' : Nat} (h : CI W v n k) (e : n = n') (b : k ≤ k') : CI W v n' k' := by
  subst e; exact ⟨by obtain ⟨g, a, l, c, e, m, h1, h2⟩ := h.out; exact ⟨g, a, l, c, e, m, h1.mono b, h2⟩⟩
/-- A value of the kind N is returned; nothing that was there has changed. -/
def CNRet (w : World) (x : Nat) (k : Nat) (e : Ending) (w' : World) : Prop := ∃ a l c, e = .returned (.slice a l c) ∧ CN w' (.slice a l c) x k ∧ Below w.heap.size w w'
theorem CNRet.of {w w' : World} {n k : Nat} {e : Ending} (h : RetN w n k e w') : CNRet w n k e w' := by
  obtain ⟨a, l, c, e, h, hb⟩ := h; exact ⟨a, l, c, e, ⟨h⟩, hb⟩
theorem Calls.cN {P : Program} {f : FuncId} {args : Array Value} {w : World} {x : Nat} {k : Nat} {K : Ending → World → Prop} (h : Calls P f args w (CNRet w x k))
    (hK : ∀ w' [Kp1 w w'] (a : Option Addr) (l : Nat) (c : Nat) [CN w' (.slice a l c) x k], K (.returned (.slice a l c)) w') : Calls P f args w K := by
  refine h.mono ?_
  rintro e w' ⟨a, l, c, rfl, hx, hb⟩
  exact @hK w' ⟨hb⟩ a l c hx
theorem CNRet.fin {w w' : World} {a : Option Addr} {l : Nat} {c : Nat} {x x' : Nat} {kx : Nat} {k : Nat} [b : Kp w w'] [hx : CN w' (.slice a l c) x kx] (ex : x = x') (mx : kx ≤ k) : CNRet w x' k (.returned (.slice a l c)) w' :=
  ⟨_, _, _, rfl, hx.cast ex mx, b.out⟩
/-- A value of the kind Z is returned; nothing that was there has changed. -/
def CZRet (w : World) (x : Int) (k : Nat) (e : Ending) (w' : World) : Prop := ∃ g a l c, e = .returned (.agg #[.bool g, .slice a l c]) ∧ CZ w' (.agg #[.bool g, .slice a l c]) x k ∧ Below w.heap.size w w'
theorem CZRet.of {w w' : World} {x : Int} {k : Nat} {e : Ending} (h : RetZ w x k e w') : CZRet w x k e w' := by
  obtain ⟨g, a, l, c, e, h, hb⟩ := h; exact ⟨g, a, l, c, e, ⟨⟨g, a, l, c, rfl, h⟩⟩, hb⟩
theorem Calls.cZ {P : Program} {f : FuncId} {args : Array Value} {w : World} {x : Int} {k : Nat} {K : Ending → World → Prop} (h : Calls P f args w (CZRet w x k))
    (hK : ∀ w' [Kp1 w w'] (g : Bool) (a : Option Addr) (l : Nat) (c : Nat) [CZ w' (.agg #[.bool g, .slice a l c]) x k], K (.returned (.agg #[.bool g, .slice a l c])) w') : Calls P f args w K := by
  refine h.mono ?_
  rintro e w' ⟨g, a, l, c, rfl, hx, hb⟩
  exact @hK w' ⟨hb⟩ g a l c hx
theorem CZRet.fin {w w' : World} {g : Bool} {a : Option Addr} {l : Nat} {c : Nat} {x x' : Int} {kx : Nat} {k : Nat} [b : Kp w w'] [hx : CZ w' (.agg #[.bool g, .slice a l c]) x kx] (ex : x = x') (mx : kx ≤ k) : CZRet w x' k (.returned (.agg #[.bool g, .slice a l c])) w' :=
  ⟨_, _, _, _, rfl, hx.cast ex mx, b.out⟩
theorem zz_of {w : World} {g : Bool} {a : Option Addr} {l c : Nat} {z : Int} {k : Nat} (h : CZ w (.agg #[.bool g, .slice a l c]) z k) : Zz w g (.slice a l c) z k := by
  obtain ⟨g', a', l', c', e, h⟩ := h.out
  simp only [Value.agg.injEq, Array.mk.injEq, List.cons.injEq, Value.bool.injEq, and_true] at e
  obtain ⟨rfl, e⟩ := e
  rw [e]; exact h
theorem zi_of {w : World} {g : Bool} {a : Option Addr} {l c : Nat} {z : Int} {k : Nat} (h : CI w (.agg #[.bool g, .slice a l c]) z k) : Zi w g (.slice a l c) z k := by
  obtain ⟨g', a', l', c', e, h⟩ := h.out
  simp only [Value.agg.injEq, Array.mk.injEq, List.cons.injEq, Value.bool.injEq, and_true] at e
  obtain ⟨rfl, e⟩ := e
  rw [e]; exact h
theorem normC {w : World} {a1 : Option Addr} {l1 c1 m k1 : Nat} [h1 : CR w (.slice a1 l1 c1) m k1] (b : k1 ≤ 900000) :
    Calls Tryz.prog 216 #[.slice a1 l1 c1] w (CNRet w m (k1)) :=
  (normW h1.out b).mono fun _ _ => CNRet.of
theorem addC {w : World} {a1 a2 : Option Addr} {l1 c1 m l2 c2 n k1 k2 : Nat} [h1 : CR w (.slice a1 l1 c1) m k1] [h2 : CR w (.slice a2 l2 c2) n k2] (b : k1 ≤ 900000 ∧ k2 ≤ 900000) :
    Calls Tryz.prog 272 #[.slice a1 l1 c1, .slice a2 l2 c2] w (CNRet w (m + n) (max k1 k2 + 1)) :=
  (addW h1.out h2.out b.1 b.2).mono fun _ _ => CNRet.of
theorem mulC {w : World} {a1 a2 : Option Addr} {l1 c1 m l2 c2 n k1 k2 : Nat} [h1 : CR w (.slice a1 l1 c1) m k1] [h2 : CR w (.slice a2 l2 c2) n k2] (b : k1 ≤ 900000 ∧ k2 ≤ 900000) :
    Calls Tryz.prog 212 #[.slice a1 l1 c1, .slice a2 l2 c2] w (CNRet w (m * n) (k1 + k2)) :=
  (mulW h1.out h2.out b.1 b.2).mono fun _ _ => CNRet.of
theorem gcdC {w : World} {a1 a2 : Option Addr} {l1 c1 m l2 c2 n k1 k2 : Nat} [h1 : CR w (.slice a1 l1 c1) m k1] [h2 : CR w (.slice a2 l2 c2) n k2] (b : k1 ≤ 900000 ∧ k2 ≤ 900000) :
    Calls Tryz.prog 249 #[.slice a1 l1 c1, .slice a2 l2 c2] w (CNRet w (Nat.gcd m n) (max k1 k2)) :=
  (gcdW h1.out h2.out b.1 b.2).mono fun _ _ => CNRet.of
theorem cmpC {w : World} {a1 a2 : Option Addr} {l1 c1 m l2 c2 n k1 k2 : Nat} [h1 : CR w (.slice a1 l1 c1) m k1] [h2 : CR w (.slice a2 l2 c2) n k2] :
    Calls Tryz.prog 281 #[.slice a1 l1 c1, .slice a2 l2 c2] w (fun e w' => e = .returned (.int .i64 (cmpN m n)) ∧ Below w.heap.size w w') :=
  cmpW h1.out h2.out
theorem bitsC {w : World} {a1 : Option Addr} {l1 c1 m k1 : Nat} [h1 : CR w (.slice a1 l1 c1) m k1] (b : k1 ≤ 900000) :
    Calls Tryz.prog 133 #[.slice a1 l1 c1] w (fun e w' => e = .returned (.int .i64 ((nbits m : Nat) : Int)) ∧ w = w') :=
  bitsW h1.out b
theorem uintC {w : World} {a1 : Option Addr} {l1 c1 m k1 : Nat} [h1 : CR w (.slice a1 l1 c1) m k1] :
    Calls Tryz.prog 252 #[.slice a1 l1 c1] w (fun e w' => e = .returned (uintV m) ∧ w = w') :=
  uintW h1.out
theorem refNC {w : World} {a1 : Option Addr} {l1 c1 m k1 : Nat} [h1 : CR w (.slice a1 l1 c1) m k1] (b : k1 ≤ 900000) :
    Calls Tryz.prog 63 #[.slice a1 l1 c1] w (CNRet w m (k1)) :=
  (refNW h1.out b).mono fun _ _ => CNRet.of
theorem refToNC {w : World} {a1 : Option Addr} {l1 c1 m k1 : Nat} [h1 : CN w (.slice a1 l1 c1) m k1] (b : k1 ≤ 900000) :
    Calls Tryz.prog 102 #[.slice a1 l1 c1] w (CNRet w m (k1)) :=
  (refToNW h1.out b).mono fun _ _ => CNRet.of
theorem numSumC {w : World} {a1 a2 : Option Addr} {l1 c1 m l2 c2 n k1 k2 : Nat} [h1 : CN w (.slice a1 l1 c1) m k1] [h2 : CN w (.slice a2 l2 c2) n k2] (b : k1 ≤ 900000 ∧ k2 ≤ 900000) :
    Calls Tryz.prog 180 #[.slice a1 l1 c1, .slice a2 l2 c2] w (CNRet w (m + n) (max k1 k2 + 1)) :=
  (numSumW h1.out h2.out b.1 b.2).mono fun _ _ => CNRet.of
theorem numProductC {w : World} {a1 a2 : Option Addr} {l1 c1 m l2 c2 n k1 k2 : Nat} [h1 : CN w (.slice a1 l1 c1) m k1] [h2 : CN w (.slice a2 l2 c2) n k2] (b : k1 ≤ 900000 ∧ k2 ≤ 900000) :
    Calls Tryz.prog 62 #[.slice a1 l1 c1, .slice a2 l2 c2] w (CNRet w (m * n) (k1 + k2)) :=
  (numProductW h1.out h2.out b.1 b.2).mono fun _ _ => CNRet.of
theorem commonC {w : World} {a1 a2 : Option Addr} {l1 c1 m l2 c2 n k1 k2 : Nat} [h1 : CN w (.slice a1 l1 c1) m k1] [h2 : CN w (.slice a2 l2 c2) n k2] (b : k1 ≤ 200000 ∧ k2 ≤ 200000) :
    Calls Tryz.prog 138 #[.slice a1 l1 c1, .slice a2 l2 c2] w (CNRet w (Nat.gcd m n) (max k1 k2)) :=
  (commonW h1.out h2.out b.1 b.2).mono fun _ _ => CNRet.of
theorem numCmpC {w : World} {a1 a2 : Option Addr} {l1 c1 m l2 c2 n k1 k2 : Nat} [h1 : CN w (.slice a1 l1 c1) m k1] [h2 : CN w (.slice a2 l2 c2) n k2] :
    Calls Tryz.prog 139 #[.slice a1 l1 c1, .slice a2 l2 c2] w (fun e w' => e = .returned (.int .i64 (cmpN m n)) ∧ Below w.heap.size w w') :=
  numCmpW h1.out h2.out
theorem fromUintC {w : World} {x : Int} (b : 0 ≤ x ∧ x < 18446744073709551616) : Calls Tryz.prog 217 #[.int .u64 x] w (CNRet w x.toNat 2) := by
  obtain ⟨n, rfl⟩ : ∃ n : Nat, x = n := ⟨x.toNat, by omega⟩
  exact (fromUintW (x := n) (by omega)).mono fun _ _ => CNRet.of
theorem wordC {w : World} {x : Int} (b : 0 ≤ x ∧ x < 18446744073709551616) : Calls Tryz.prog 126 #[.int .u64 x] w (CNRet w x.natAbs 2) :=
  (numWordI b.1 b.2).mono fun _ _ => CNRet.of
theorem oneC {w : World} : Calls Tryz.prog 73 #[] w (CNRet w 1 1) := numOneW.mono fun _ _ => CNRet.of
theorem numLessC {w : World} {a1 a2 : Option Addr} {l1 c1 l2 c2 m n k1 k2 : Nat} [h1 : CN w (.slice a1 l1 c1) m k1] [h2 : CN w (.slice a2 l2 c2) n k2] (b : k1 ≤ 900000) (hle : n ≤ m) :
    Calls Tryz.prog 181 #[.slice a1 l1 c1, .slice a2 l2 c2] w (CNRet w (m - n) k1) := (numLessW h1.out h2.out b hle).mono fun _ _ => CNRet.of
/-- Make, signed: the sign is struck where the number is 0. -/
def SgRet (w : World) (a : Option Addr) (l c : Nat) (z : Int) (k : Nat) (e : Ending) (w' : World) : Prop := ∃ g, e = .returned (.agg #[.bool g, .slice a l c]) ∧ CZ w' (.agg #[.bool g, .slice a l c]) z k ∧ Below w.heap.size w w'
theorem Calls.cSg {P : Program} {f : FuncId} {args : Array Value} {w : World} {a : Option Addr} {l c k : Nat} {z : Int} {K : Ending → World → Prop} (h : Calls P f args w (SgRet w a l c z k))
    (hK : ∀ w' [Kp1 w w'] g [CZ w' (.agg #[.bool g, .slice a l c]) z k], K (.returned (.agg #[.bool g, .slice a l c])) w') : Calls P f args w K := by
  refine h.mono ?_
  rintro e w' ⟨g, rfl, hn, hb⟩
  exact @hK w' ⟨hb⟩ g hn
/-- Two naturals. -/
def QRRet (w : World) (q r k : Nat) (e : Ending) (w' : World) : Prop := ∃ a l c a2 l2 c2, e = .returned (.tuple #[.slice a l c, .slice a2 l2 c2]) ∧ CN w' (.slice a l c) q k ∧ CN w' (.slice a2 l2 c2) r k ∧ Below w.heap.size w w'
theorem divideC {w : World} {a1 a2 : Option Addr} {l1 c1 l2 c2 m n k1 k2 : Nat} [h1 : CN w (.slice a1 l1 c1) m k1] [h2 : CN w (.slice a2 l2 c2) n k2] (b : k1 ≤ 200000 ∧ k2 ≤ 200000) (hn : n ≠ 0) :
    Calls Tryz.prog 140 #[.slice a1 l1 c1, .slice a2 l2 c2] w (QRRet w (m / n) (m % n) (k1 + 2)) := by
  refine (divideW h1.out h2.out hn b.1).mono ?_
  rintro e w' ⟨a, l, c, a2, l2, c2, rfl, q, r, hb⟩
  exact ⟨a, l, c, a2, l2, c2, rfl, ⟨q.mono (by omega)⟩, ⟨r.mono (by omega)⟩, hb⟩
theorem Calls.cQR {P : Program} {f : FuncId} {args : Array Value} {w : World} {q r k : Nat} {K : Ending → World → Prop} (h : Calls P f args w (QRRet w q r k))
    (hK : ∀ w' [Kp1 w w'] a l c a2 l2 c2 [CN w' (.slice a l c) q k] [CN w' (.slice a2 l2 c2) r k], K (.returned (.tuple #[.slice a l c, .slice a2 l2 c2])) w') : Calls P f args w K := by
  refine h.mono ?_
  rintro e w' ⟨a, l, c, a2, l2, c2, rfl, h1, h2, hb⟩
  exact @hK w' ⟨hb⟩ a l c a2 l2 c2 h1 h2
def DMRet (w : World) (q r k : Nat) (ok : Bool) (e : Ending) (w' : World) : Prop := ∃ a l c a2 l2 c2, e = .returned (.tuple #[.slice a l c, .slice a2 l2 c2, .bool ok]) ∧ CN w' (.slice a l c) q k ∧ CN w' (.slice a2 l2 c2) r k ∧ Below w.heap.size w w'
theorem divmodC {w : World} {a1 a2 : Option Addr} {l1 c1 l2 c2 m n k1 k2 : Nat} [h1 : CR w (.slice a1 l1 c1) m k1] [h2 : CR w (.slice a2 l2 c2) n k2] (b : k1 ≤ 900000) :
    Calls Tryz.prog 250 #[.slice a1 l1 c1, .slice a2 l2 c2] w (DMRet w (m / n) (if n = 0 then 0 else m % n) k1 (decide (n ≠ 0))) := by
  refine (divmodW h1.out h2.out b).mono ?_
  rintro e w' ⟨a, l, c, a2, l2, c2, rfl, q, r, hb⟩
  exact ⟨a, l, c, a2, l2, c2, rfl, ⟨q⟩, ⟨r⟩, hb⟩
theorem Calls.cDM {P : Program} {f : FuncId} {args : Array Value} {w : World} {q r k : Nat} {ok : Bool} {K : Ending → World → Prop} (h : Calls P f args w (DMRet w q r k ok))
    (hK : ∀ w' [Kp1 w w'] a l c a2 l2 c2 [CN w' (.slice a l c) q k] [CN w' (.slice a2 l2 c2) r k], K (.returned (.tuple #[.slice a l c, .slice a2 l2 c2, .bool ok])) w') : Calls P f args w K := by
  refine h.mono ?_
  rintro e w' ⟨a, l, c, a2, l2, c2, rfl, h1, h2, hb⟩
  exact @hK w' ⟨hb⟩ a l c a2 l2 c2 h1 h2
/-- Division of integers. -/
def IDRet (w : World) (x y : Int) (k : Nat) (e : Ending) (w' : World) : Prop := ∃ g a l c g2 a2 l2 c2, e = .returned (.tuple #[.agg #[.bool g, .slice a l c], .agg #[.bool g2, .slice a2 l2 c2], .bool (decide (y ≠ 0))]) ∧ CZ w' (.agg #[.bool g, .slice a l c]) (x / y) k ∧ CZ w' (.agg #[.bool g2, .slice a2 l2 c2]) (if y = 0 then 0 else x % y) k ∧ Below w.heap.size w w'
theorem Calls.cID {P : Program} {f : FuncId} {args : Array Value} {w : World} {x y : Int} {k : Nat} {K : Ending → World → Prop} (h : Calls P f args w (IDRet w x y k))
    (hK : ∀ w' [Kp1 w w'] g a l c g2 a2 l2 c2 [CZ w' (.agg #[.bool g, .slice a l c]) (x / y) k] [CZ w' (.agg #[.bool g2, .slice a2 l2 c2]) (if y = 0 then 0 else x % y) k], K (.returned (.tuple #[.agg #[.bool g, .slice a l c], .agg #[.bool g2, .slice a2 l2 c2], .bool (decide (y ≠ 0))])) w') : Calls P f args w K := by
  refine h.mono ?_
  rintro e w' ⟨g, a, l, c, g2, a2, l2, c2, rfl, h1, h2, hb⟩
  exact @hK w' ⟨hb⟩ g a l c g2 a2 l2 c2 h1 h2
theorem sameNC {w : World} {a1 a2 : Option Addr} {l1 c1 l2 c2 m n k1 k2 : Nat} [h1 : CN w (.slice a1 l1 c1) m k1] [h2 : CN w (.slice a2 l2 c2) n k2] (e : m = n) :
    Calls Tryz.prog 100 #[.slice a1 l1 c1, .slice a2 l2 c2] w fun e w' => e = .returned (.bool true) ∧ Below w.heap.size w w' := sameNT h1.out h2.out e
/-- A natural and a Boolean. -/
def NBRet (w : World) (n : Nat) (v : Bool) (k : Nat) (e : Ending) (w' : World) : Prop := ∃ a l c, e = .returned (.tuple #[.slice a l c, .bool v]) ∧ CN w' (.slice a l c) n k ∧ Below w.heap.size w w'
theorem Calls.cNB {P : Program} {f : FuncId} {args : Array Value} {w : World} {n k : Nat} {v : Bool} {K : Ending → World → Prop} (h : Calls P f args w (NBRet w n v k))
    (hK : ∀ w' [Kp1 w w'] a l c [CN w' (.slice a l c) n k], K (.returned (.tuple #[.slice a l c, .bool v])) w') : Calls P f args w K := by
  refine h.mono ?_
  rintro e w' ⟨a, l, c, rfl, h1, hb⟩
  exact @hK w' ⟨hb⟩ a l c h1
theorem natSubC {w : World} {a1 a2 : Option Addr} {l1 c1 l2 c2 m n k1 k2 : Nat} [h1 : CR w (.slice a1 l1 c1) m k1] [h2 : CR w (.slice a2 l2 c2) n k2] (b : k1 ≤ 900000) :
    Calls Tryz.prog 273 #[.slice a1 l1 c1, .slice a2 l2 c2] w (NBRet w (m - n) (decide (n ≤ m)) k1) :=
  (subW h1.out h2.out b).mono fun _ _ ⟨a, l, c, e, h, hb⟩ => ⟨a, l, c, e, ⟨h⟩, hb⟩
theorem SgRet.fin {w w' : World} {a : Option Addr} {l c n k : Nat} {g g' : Bool} [b : Kp w w'] [h : CN w' (.slice a l c) n k] (e : g' = (g && decide (0 < l))) : SgRet w a l c (sgn g n) k (.returned (.agg #[.bool g', .slice a l c])) w' :=
  ⟨g', rfl, ⟨⟨_, _, _, _, rfl, by subst e; exact Zz.mk' h.out⟩⟩, b.out⟩
theorem CZ.mkB {W : World} {a : Option Addr} {l c n k : Nat} {g g' : Bool} [h : CN W (.slice a l c) n k] (e : g' = (g && decide (0 < l))) : CZ W (.agg #[.bool g', .slice a l c]) (sgn g n) k := ⟨⟨_, _, _, _, rfl, by subst e; exact Zz.mk' h.out⟩⟩
theorem CZ.mkA {W : World} {a : Option Addr} {l c n k : Nat} {g : Bool} {x : Int} [h : CN W (.slice a l c) n k] (en : n = x.natAbs) (e : g = decide (x < 0)) : CZ W (.agg #[.bool g, .slice a l c]) x k := ⟨⟨_, _, _, _, rfl, e, by subst en; exact h.out⟩⟩
end Go.Proofs.YtdlnoeegboapkaaGreatDoor

/- A region that draws its order, whose last operations write cells that the region itself loads: the condition S on the world is asked only as long as none of those last operations (T) has been carried out. In the manner of the base's law on held conditions (Derived.OrdersHeld), with S let go at the end. -/
namespace Go.Proofs.YtdlnoeegboapkaaGreatDoor
open Go.RowKit
section
variable {P : Program} {ops : Array Oper} {Q : Exit → Act → World → Prop} {md : Region.Mode} {S : World → Prop} {T : Nat → Bool}
/-- In whatever order it goes on, S holds behind every operation that is none of T. -/
def wpAnyT (P : Program) (md : Region.Mode) (ops : Array Oper) (Q : Exit → Act → World → Prop) (S : World → Prop) (T : Nat → Bool) : Nat → Array Bool → Act → World → Prop
  | 0, listed, a, w => Region.ready md ops listed = [] ∧ Q .normal a w
  | fuel + 1, listed, a, w => (Region.ready md ops listed = [] → Q .normal a w) ∧
    ∀ i ∈ Region.ready md ops listed, wpOp P ops Q i (fun a' w' => (T i = false → S w') ∧ wpAnyT P md ops Q S T fuel (listed.setIfInBounds i true) a' w') a w
theorem wpAny_of_T : ∀ (fuel : Nat) (listed : Array Bool) (a : Act) (w : World), wpAnyT P md ops Q S T fuel listed a w → wpAny P md ops Q fuel listed a w
  | 0, _, _, _, h => h
  | fuel + 1, _, _, _, h => ⟨h.1, fun i hi => wpOp_mono (fun a' w' k => wpAny_of_T fuel _ a' w' k.2) (h.2 i hi)⟩
/-- What waits for i. -/
def waits (md : Region.Mode) (ops : Array Oper) (i j : Nat) : Bool := match ops[j]? with
  | some o => o.after.any fun e => Region.binds md e && e.on == i
  | none => true
theorem not_waits {i j : Nat} {oj : Oper} (hj : ops[j]? = some oj) (hw : waits md ops i j = true) : ∃ e ∈ oj.after, Region.binds md e = true ∧ e.on = i := by
  unfold waits at hw
  rw [hj] at hw
  obtain ⟨e, he, h⟩ := Array.any_eq_true'.1 hw
  simp only [Bool.and_eq_true, beq_iff_eq] at h
  exact ⟨e, he, h.1, h.2⟩
theorem wpAnyT_first {i : Nat} {oi : Oper} {v : Value} (hi : ops[i]? = some oi) (hsel : ∀ (j : Nat) (o : Oper) cs b, ops[j]? = some o → o.op ≠ .select cs b)
    (hQ : ∀ c a w, Q (.panic c) (a.put oi.dst v) w → Q (.panic c) a w) (hT : ∀ j, T j = true → waits md ops i j = true) :
    ∀ (fuel : Nat) (listed : Array Bool) (a : Act) (w : World),
      (∀ j oj, ops[j]? = some oj → j ≠ i → listed.getD j true = false → (∀ e ∈ oj.after, Region.binds md e = true → e.on ≠ i) → oi.apart ops oj = true) →
      i ∈ Region.ready md ops listed → YieldsIf P ops S oi v a → S w →
      wpAnyT P md ops Q S T fuel (listed.setIfInBounds i true) (a.put oi.dst v) w → wpAnyT P md ops Q S T (fuel + 1) listed a w := by
  intro fuel
  induction fuel with
  | zero =>
    intro listed a w _ hr hy hS H
    refine ⟨fun h => (by rw [h] at hr; cases hr), fun j hj => ?_⟩
    by_cases hji : j = i
    · subst hji; exact hy.wpOp hi hS ⟨fun _ => hS, H⟩
    · have h0 := ready_mono hj hji
      rw [H.1] at h0
      cases h0
  | succ fuel ih =>
    intro listed a w hfree hr hy hS H
    refine ⟨fun h => (by rw [h] at hr; cases hr), fun j hj => ?_⟩
    by_cases hji : j = i
    · subst hji; exact hy.wpOp hi hS ⟨fun _ => hS, H⟩
    · obtain ⟨hjun, oj, hoj, hall⟩ := mem_ready.1 hj
      have hiun := (mem_ready.1 hr).1
      have hnot : ∀ e ∈ oj.after, Region.binds md e = true → e.on ≠ i := fun e he hb heq => by
        have h1 := hall e he hb
        rw [heq] at h1
        rcases Nat.lt_or_ge i listed.size with h' | h'
        · simp [h'] at hiun h1; rw [hiun] at h1; cases h1
        · simp [Array.getElem?_eq_none h'] at h1
      have hTj : T j = false := by
        cases hc : T j with
        | false => rfl
        | true =>
          obtain ⟨e, he, hb, ho⟩ := not_waits hoj (hT j hc)
          exact absurd ho (hnot e he hb)
      have k := wpOp_putIf hoj (hfree j oj hoj hji hjun hnot) (fun cs b => hsel i oi cs b hi) (fun cs b => hsel j oj cs b hoj) hQ hy (H.2 j (ready_mono hj hji))
      refine wpOp_mono (fun a' w' q => ⟨fun _ => q.2.1 hTj, ih (listed.setIfInBounds j true) a' w' (fun m om hm hmi hun hno => hfree m om hm hmi ?_ hno) (ready_mono hr (Ne.symm hji)) q.1 (q.2.1 hTj) ?_⟩) k
      · by_cases hjm : j = m
        · subst hjm; exact hjun
        · rw [getD_set_ne true hjm] at hun; exact hun
      · rw [Array.setIfInBounds_comm _ _ hji]
        exact q.2.2
/-- Number i is taken first; all of T waits for it. -/
theorem wpAnyT_take {i : Nat} {oi : Oper} {v : Value} {fuel : Nat} {listed : Array Bool} {a : Act} {w : World} (hi : ops[i]? = some oi)
    (hs : Region.noSelect ops = true) (hf : Region.free md ops listed i = true) (hr : (Region.ready md ops listed).contains i = true)
    (hQ : ∀ c a w, Q (.panic c) (a.put oi.dst v) w → Q (.panic c) a w) (hT : ∀ j, T j = true → waits md ops i j = true) (hy : YieldsIf P ops S oi v a) (hS : S w)
    (h : wpAnyT P md ops Q S T fuel (listed.setIfInBounds i true) (a.put oi.dst v) w) : wpAnyT P md ops Q S T (fuel + 1) listed a w :=
  wpAnyT_first hi (Region.noSelect_spec hs) hQ hT fuel listed a w (Region.free_spec hi hf) (by simpa using hr) hy hS h
/-- A pure operation of T is taken first: S is not asked. -/
theorem wpAnyT_first0 {i : Nat} {oi : Oper} {v : Value} (hi : ops[i]? = some oi) (hsel : ∀ (j : Nat) (o : Oper) cs b, ops[j]? = some o → o.op ≠ .select cs b)
    (hQ : ∀ c a w, Q (.panic c) (a.put oi.dst v) w → Q (.panic c) a w) (hTi : T i = true) :
    ∀ (fuel : Nat) (listed : Array Bool) (a : Act) (w : World),
      (∀ j oj, ops[j]? = some oj → j ≠ i → listed.getD j true = false → (∀ e ∈ oj.after, Region.binds md e = true → e.on ≠ i) → oi.apart ops oj = true) →
      i ∈ Region.ready md ops listed → YieldsIf P ops (fun _ => True) oi v a →
      wpAnyT P md ops Q S T fuel (listed.setIfInBounds i true) (a.put oi.dst v) w → wpAnyT P md ops Q S T (fuel + 1) listed a w := by
  have hno : ∀ w : World, T i = false → S w := fun w h => by rw [hTi] at h; cases h
  intro fuel
  induction fuel with
  | zero =>
    intro listed a w _ hr hy H
    refine ⟨fun h => (by rw [h] at hr; cases hr), fun j hj => ?_⟩
    by_cases hji : j = i
    · subst hji; exact hy.wpOp hi trivial ⟨hno w, H⟩
    · have h0 := ready_mono hj hji
      rw [H.1] at h0
      cases h0
  | succ fuel ih =>
    intro listed a w hfree hr hy H
    refine ⟨fun h => (by rw [h] at hr; cases hr), fun j hj => ?_⟩
    by_cases hji : j = i
    · subst hji; exact hy.wpOp hi trivial ⟨hno w, H⟩
    · obtain ⟨hjun, oj, hoj, hall⟩ := mem_ready.1 hj
      have hiun := (mem_ready.1 hr).1
      have hnot : ∀ e ∈ oj.after, Region.binds md e = true → e.on ≠ i := fun e he hb heq => by
        have h1 := hall e he hb
        rw [heq] at h1
        rcases Nat.lt_or_ge i listed.size with h' | h'
        · simp [h'] at hiun h1; rw [hiun] at h1; cases h1
        · simp [Array.getElem?_eq_none h'] at h1
      have k := wpOp_putIf hoj (hfree j oj hoj hji hjun hnot) (fun cs b => hsel i oi cs b hi) (fun cs b => hsel j oj cs b hoj) hQ hy (H.2 j (ready_mono hj hji))
      refine wpOp_mono (fun a' w' q => ⟨q.2.1, ih (listed.setIfInBounds j true) a' w' (fun m om hm hmi hun hno => hfree m om hm hmi ?_ hno) (ready_mono hr (Ne.symm hji)) q.1 ?_⟩) k
      · by_cases hjm : j = m
        · subst hjm; exact hjun
        · rw [getD_set_ne true hjm] at hun; exact hun
      · rw [Array.setIfInBounds_comm _ _ hji]
        exact q.2.2
theorem wpAnyT_take0 {i : Nat} {oi : Oper} {v : Value} {fuel : Nat} {listed : Array Bool} {a : Act} {w : World} (hi : ops[i]? = some oi)
    (hs : Region.noSelect ops = true) (hf : Region.free md ops listed i = true) (hr : (Region.ready md ops listed).contains i = true)
    (hQ : ∀ c a w, Q (.panic c) (a.put oi.dst v) w → Q (.panic c) a w) (hTi : T i = true) (hy : YieldsIf P ops (fun _ => True) oi v a)
    (h : wpAnyT P md ops Q S T fuel (listed.setIfInBounds i true) (a.put oi.dst v) w) : wpAnyT P md ops Q S T (fuel + 1) listed a w :=
  wpAnyT_first0 hi (Region.noSelect_spec hs) hQ hTi fuel listed a w (Region.free_spec hi hf) (by simpa using hr) hy h
def AllT (P : Program) (md : Region.Mode) (ops : Array Oper) (Q : Exit → Act → World → Prop) (S : World → Prop) (T : Nat → Bool) (fuel : Nat) (listed : Array Bool) (a : Act) (w : World) (rs : List Nat) : Prop :=
  ∀ i ∈ rs, wpOp P ops Q i (fun a' w' => (T i = false → S w') ∧ wpAnyT P md ops Q S T fuel (listed.setIfInBounds i true) a' w') a w
theorem AllT.nil {fuel : Nat} {listed : Array Bool} {a : Act} {w : World} : AllT P md ops Q S T fuel listed a w [] := fun _ h => by cases h
theorem AllT.cons {fuel : Nat} {listed : Array Bool} {a : Act} {w : World} {i : Nat} {o : Oper} {rs : List Nat} (ho : ops[i]? = some o)
    (h : ∀ K' : Act → World → Prop, Shut (∀ a w, (T i = false → S w) → ((T i = false → S w) → wpAnyT P md ops Q S T fuel (listed.setIfInBounds i true) a w) → K' a w) → if Region.wanted o (yielded ops a.tmps) = true then Oper.wp P o a w K' Q else K' (a.put o.dst undef) w)
    (hs : AllT P md ops Q S T fuel listed a w rs) : AllT P md ops Q S T fuel listed a w (i :: rs) := fun j hj => by
  rcases List.mem_cons.1 hj with rfl | hj
  · exact wpOp_step ho (fun K' hK => h K' (fun a w hS hW => hK a w ⟨hS, hW hS⟩))
  · exact hs j hj
theorem wpAnyT_ready {rs : List Nat} {fuel : Nat} {listed : Array Bool} {a : Act} {w : World} (hr : Region.ready md ops listed = rs) (hne : rs ≠ [])
    (h : AllT P md ops Q S T fuel listed a w rs) : wpAnyT P md ops Q S T (fuel + 1) listed a w := ⟨fun h0 => absurd (hr ▸ h0) hne, hr ▸ h⟩
theorem wpAnyT_done {listed : Array Bool} {a : Act} {w : World} (hr : Region.ready md ops listed = []) (h : Q .normal a w) : ∀ fuel, wpAnyT P md ops Q S T fuel listed a w
  | 0 => ⟨hr, h⟩
  | _ + 1 => ⟨fun _ => h, by rw [hr]; simp⟩
theorem region_t {id : Nat} {a : Act} {w : World} (hm : P.follows .mixedOrders = true) (L : List Nat) (T : Nat → Bool)
    (h : Ex w L w.drew → wpAnyT P .any ops Q (Ex w L) T ops.size (Array.replicate ops.size false) a w.drew) : (Code.region id ops true).wp P Q a w :=
  wp_region_any hm (wpAny_of_T _ _ _ _ (h Ex.dr))
/-- All of a finite T waits. -/
theorem T_waits {i : Nat} {L : List Nat} (h : (L.all fun j => waits md ops i j) = true) : ∀ j, (L.contains j) = true → waits md ops i j = true := fun j hj => by
  have := List.all_eq_true.1 h j (by simpa using hj)
  exact this
end
/-! ### The same, short: what is alike in every step is found by itself -/
section
variable {P : Program} {ops : Array Oper} {Q : Exit → Act → World → Prop} {md : Region.Mode} {w0 : World} {L Ts : List Nat}
theorem rgn {id : Nat} {a : Act} {w : World} (L Ts : List Nat) (h : Ex w L w.drew → wpAnyT P .any ops Q (Ex w L) Ts.contains ops.size (Array.replicate ops.size false) a w.drew) (hm : P.follows .mixedOrders = true := by kernel_rfl) : (Code.region id ops true).wp P Q a w := region_t hm L Ts.contains h
theorem tk (i : Nat) {oi : Oper} {v : Value} {fuel : Nat} {listed : Array Bool} {a a' : Act} {w : World} (hS : Ex w0 L w) (h : wpAnyT P md ops Q (Ex w0 L) Ts.contains fuel (listed.setIfInBounds i true) a' w)
    (hi : ops[i]? = some oi := by simp; rfl) (hs : Region.noSelect ops = true := by kernel_rfl) (hf : Region.free md ops listed i = true := by kernel_rfl) (hr : (Region.ready md ops listed).contains i = true := by kernel_rfl)
    (hQ : ∀ c a w, Q (.panic c) (a.put oi.dst v) w → Q (.panic c) a w := by exact fun _ _ _ h => h) (hT : (Ts.all fun j => waits md ops i j) = true := by kernel_rfl) (hw : Region.wanted oi (yielded ops a.tmps) = true := by rfl)
    (hy : ∀ wx, Ex w0 L wx → (execOp a.eval oi).run P wx = .ok (.value v) wx := by (intro wx hSw; have hSx := Ex1.mk hSw; go_simp; try with_reducible rfl))
    (ha : a.put oi.dst v = a' := by (simp only [Act.put, List.setIfInBounds_toArray, List.set_cons_zero, List.set_cons_succ]; first | done | rfl)) : wpAnyT P md ops Q (Ex w0 L) Ts.contains (fuel + 1) listed a w := by
  subst ha; exact wpAnyT_take hi hs hf hr hQ (T_waits hT) (Or.inl ⟨hw, hy⟩) hS h
/-- One that its guard passes over. -/
theorem tkU (i : Nat) {oi : Oper} {fuel : Nat} {listed : Array Bool} {a a' : Act} {w : World} (hS : Ex w0 L w) (h : wpAnyT P md ops Q (Ex w0 L) Ts.contains fuel (listed.setIfInBounds i true) a' w)
    (hi : ops[i]? = some oi := by simp; rfl) (hs : Region.noSelect ops = true := by kernel_rfl) (hf : Region.free md ops listed i = true := by kernel_rfl) (hr : (Region.ready md ops listed).contains i = true := by kernel_rfl)
    (hQ : ∀ c a w, Q (.panic c) (a.put oi.dst undef) w → Q (.panic c) a w := by exact fun _ _ _ h => h) (hT : (Ts.all fun j => waits md ops i j) = true := by kernel_rfl) (hw : Region.wanted oi (yielded ops a.tmps) = false := by rfl)
    (ha : a.put oi.dst undef = a' := by (simp only [Act.put, List.setIfInBounds_toArray, List.set_cons_zero, List.set_cons_succ]; first | done | rfl)) : wpAnyT P md ops Q (Ex w0 L) Ts.contains (fuel + 1) listed a w := by
  subst ha; exact wpAnyT_take hi hs hf hr hQ (T_waits hT) (Or.inr ⟨hw, rfl⟩) hS h
/-- A pure one of T. -/
theorem tk0 (i : Nat) {oi : Oper} {v : Value} {fuel : Nat} {listed : Array Bool} {a a' : Act} {w : World} (h : wpAnyT P md ops Q (Ex w0 L) Ts.contains fuel (listed.setIfInBounds i true) a' w)
    (hi : ops[i]? = some oi := by simp; rfl) (hs : Region.noSelect ops = true := by kernel_rfl) (hf : Region.free md ops listed i = true := by kernel_rfl) (hr : (Region.ready md ops listed).contains i = true := by kernel_rfl)
    (hQ : ∀ c a w, Q (.panic c) (a.put oi.dst v) w → Q (.panic c) a w := by exact fun _ _ _ h => h) (hTi : Ts.contains i = true := by rfl) (hw : Region.wanted oi (yielded ops a.tmps) = true := by rfl)
    (hy : ∀ wx, True → (execOp a.eval oi).run P wx = .ok (.value v) wx := by (intro wx _; go_simp; try with_reducible rfl))
    (ha : a.put oi.dst v = a' := by (simp only [Act.put, List.setIfInBounds_toArray, List.set_cons_zero, List.set_cons_succ]; first | done | rfl)) : wpAnyT P md ops Q (Ex w0 L) Ts.contains (fuel + 1) listed a w := by
  subst ha; exact wpAnyT_take0 hi hs hf hr hQ hTi (Or.inl ⟨hw, hy⟩) h
/-- The only one that may come up. -/
theorem st (i : Nat) {o : Oper} {fuel : Nat} {listed : Array Bool} {a : Act} {w : World}
    (h : ∀ K' : Act → World → Prop, Shut (∀ a w, (Ts.contains i = false → Ex w0 L w) → ((Ts.contains i = false → Ex w0 L w) → wpAnyT P md ops Q (Ex w0 L) Ts.contains fuel (listed.setIfInBounds i true) a w) → K' a w) → if Region.wanted o (yielded ops a.tmps) = true then Oper.wp P o a w K' Q else K' (a.put o.dst undef) w)
    (hr : Region.ready md ops listed = [i] := by kernel_rfl) (ho : ops[i]? = some o := by simp; rfl) : wpAnyT P md ops Q (Ex w0 L) Ts.contains (fuel + 1) listed a w := wpAnyT_ready hr (by simp) (AllT.cons ho h AllT.nil)
theorem hd {K : Act → World → Prop} {i fuel : Nat} {listed : Array Bool} {a a' : Act} {w : World} (hK : Shut (∀ a w, (Ts.contains i = false → Ex w0 L w) → ((Ts.contains i = false → Ex w0 L w) → wpAnyT P md ops Q (Ex w0 L) Ts.contains fuel listed a w) → K a w)) [hS : Ex w0 L w]
    (h : Ex w0 L w → wpAnyT P md ops Q (Ex w0 L) Ts.contains fuel listed a' w) (ha : a = a' := by (try simp only [Act.put, List.setIfInBounds_toArray, List.set_cons_zero, List.set_cons_succ]); first | done | rfl) : K a w :=
  hK.out a w (fun _ => hS) (fun _ => by subst ha; exact h hS)
theorem hdT {K : Act → World → Prop} {i fuel : Nat} {listed : Array Bool} {a a' : Act} {w : World} (hK : Shut (∀ a w, (Ts.contains i = false → Ex w0 L w) → ((Ts.contains i = false → Ex w0 L w) → wpAnyT P md ops Q (Ex w0 L) Ts.contains fuel listed a w) → K a w))
    (h : wpAnyT P md ops Q (Ex w0 L) Ts.contains fuel listed a' w) (hTi : Ts.contains i = true := by rfl) (ha : a = a' := by (try simp only [Act.put, List.setIfInBounds_toArray, List.set_cons_zero, List.set_cons_succ]); first | done | rfl) : K a w :=
  hK.out a w (fun e => by rw [hTi] at e; cases e) (fun _ => by subst ha; exact h)
theorem dn {fuel : Nat} {listed : Array Bool} {a : Act} {w : World} (h : Q .normal a w) (hr : Region.ready md ops listed = [] := by kernel_rfl) : wpAnyT P md ops Q (Ex w0 L) Ts.contains fuel listed a w := wpAnyT_done hr h fuel
end
/-- The block q was made after w0: it is none of those that w0 had. -/
class Nw (w0 : outParam World) (q : Nat) : Prop where out : w0.heap.size ≤ q
instance LtN.nw {w0 : World} {b q : Nat} {t : TypeId} {l : List Value} [n : Nw w0 q] [h : Bx w0 b t l] : LtN b q := ⟨Nat.lt_of_lt_of_le h.lt n.out⟩
/-- A region, its first world by name. -/
theorem rgnW {P : Program} {ops : Array Oper} {Q : Exit → Act → World → Prop} {id : Nat} {a : Act} {w : World} (L Ts : List Nat) (h : ∀ w0, Hid (w0 = w) → Ex w L w.drew → wpAnyT P .any ops Q (Ex w L) Ts.contains ops.size (Array.replicate ops.size false) a w.drew) (hm : P.follows .mixedOrders = true := by kernel_rfl) : (Code.region id ops true).wp P Q a w := region_t hm L Ts.contains (h w (Lib.hid rfl))
theorem kpOf {w0 w : World} (e : Hid (w0 = w)) {W : World} [h : Kp w W] : Kp w0 W := by rw [e.out]; exact h
theorem ggOf {w0 w : World} (e : Hid (w0 = w)) {b : Nat} (h : Gg w0 b) : Gg w b := by rw [← e.out]; exact h
theorem nwOf {w0 w : World} (e : Hid (w0 = w)) {b : Nat} (h : Ge w0 b) : Nw w b := by rw [← e.out]; exact ⟨h.out⟩
end Go.Proofs.YtdlnoeegboapkaaGreatDoor
