/-
  Texts of this claim, joined: NumDiv2, Call, Cls.
-/
import Derived.Test.YtdlnoeegboapkaaGreatDoorBG
import Derived.Test.YtdlnoeegboapkaaGreatDoorBF
import Derived.Test.YtdlnoeegboapkaaGreatDoorBE
import Derived.Deep.AppendLies
import Derived.Deep.RegionHeld3
/- The reference's Divide, Common and Root (package bspregionnum). -/
namespace Go.Proofs.YtdlnoeegboapkaaGreatDoor
open Go.RowKit
set_option maxRecDepth 100000
set_option maxHeartbeats 40000000
set_option synthInstance.maxSize 100000
set_option synthInstance.maxHeartbeats 1000000

/-- What Divide returns: quotient and remainder. -/
def RetQR (w : World) (q r k : Nat) (e : Ending) (w' : World) : Prop := ∃ a l c a2 l2 c2, e = .returned (.tuple #[.slice a l c, .slice a2 l2 c2]) ∧ Nn w' (.slice a l c) q k ∧ Nn w' (.slice a2 l2 c2) r k ∧ Below w.heap.size w w'
theorem RetQR.mk {w w' : World} {q r k : Nat} {v1 v2 : Value} (h1 : Nn w' v1 q k) (h2 : Nn w' v2 r k) (hb : Below w.heap.size w w') : RetQR w q r k (.returned (.tuple #[v1, v2])) w' := by
  obtain ⟨a, c, rfl, _⟩ := h1.shape
  obtain ⟨a2, c2, rfl, _⟩ := h2.shape
  exact ⟨_, _, _, _, _, _, rfl, h1, h2, hb⟩
theorem divideW {w : World} {u v : Value} {m n km kn : Nat} (hu : Nn w u m km) (hv : Nn w v n kn) (hn : n ≠ 0) (hk : km ≤ 200000) :
    Calls Tryz.prog 140 #[u, v] w (RetQR w (m / n) (m % n) (km + 2)) := by
  obtain ⟨a1, c1, rfl⟩ := hu.1.sl
  obtain ⟨a2, c2, rfl⟩ := hv.1.sl
  have hk1 := hu.2
  have HQL := Lib.hid (Nat.le_trans (len_le (Nat.div_le_self m n) hk1) (Nat.le_add_right km 2))
  have HRL := Lib.hid (Nat.le_trans (len_le (Nat.mod_le m n) hk1) (Nat.le_add_right km 2))
  by_cases hs : m < 18446744073709551616 ∧ n < 18446744073709551616
  · obtain ⟨hm1, hn1⟩ := hs
    have CW := Lib.hid (numWord2W hu)
    have CV := Lib.hid (fun (W : World) (h : Below w.heap.size w W) => numWord2W (hv.keep h))
    have HU1 := Lib.hid (uintV_lt hm1)
    have HU2 := Lib.hid (uintV_lt hn1)
    have e1 : (m : Int) / (n : Int) = ((m / n : Nat) : Int) := (Int.natCast_ediv _ _).symm
    have e2 : (m : Int) % (n : Int) = ((m % n : Nat) : Int) := (Int.natCast_emod _ _).symm
    have hq1 : m / n < 18446744073709551616 := Nat.lt_of_le_of_lt (Nat.div_le_self _ _) hm1
    have hr1 : m % n < 18446744073709551616 := Nat.lt_of_le_of_lt (Nat.mod_le _ _) hm1
    have HE1 := Lib.hid e1
    have HE2 := Lib.hid e2
    have HQ1 := Lib.hid hq1
    have HR1 := Lib.hid hr1
    clear e1 e2 hq1 hr1 hu hv
    go_enter Tryz.func140, Tryz.ntmps140
    go_wp2_with fail
    refine CW.out.mono ?_
    rintro e w1 ⟨rfl, j1, rfl⟩
    rw [HU1.out]
    go_wp2_with fail
    refine (CV.out _ (blw_drewN (Below.refl _ _) _)).mono ?_
    rintro e w2 ⟨rfl, j2, rfl⟩
    rw [HU2.out]
    have hn3 : (1 : Int) ≤ (n : Int) := by omega
    have hn4 : ((n : Int) == 0) = false := by rw [beq_eq_false_iff_ne]; omega
    go_wp2_with fail
    have HQX := Lib.hid (show IntKind.u64.wrap ((m : Int) / (n : Int)) = ((m / n : Nat) : Int) by
      rw [HE1.out, IntKind.wrap_u64]; exact Int.emod_eq_of_lt (Int.natCast_nonneg _) (by have := HQ1.out; omega))
    have HRX := Lib.hid (show IntKind.u64.wrap ((m : Int) % (n : Int)) = ((m % n : Nat) : Int) by
      rw [HE2.out, IntKind.wrap_u64]; exact Int.emod_eq_of_lt (Int.natCast_nonneg _) (by have := HR1.out; omega))
    have HTM := Lib.hid (show (m : Int).tmod (n : Int) = ((m % n : Nat) : Int) by rw [Int.tmod_eq_emod_of_nonneg (Int.natCast_nonneg _), HE2.out])
    go_region_held3 (fun _ => True) (trivial) (first
      | (go_at_call 126; (with_reducible refine (wordZ _ _ (m / n) HQX.out HQ1.out).mono ?_); rintro e w3 ⟨zq, rfl, hzq, bq⟩)
      | (go_at_call 126; (with_reducible refine (wordZ _ _ (m % n) HRX.out HR1.out).mono ?_); rintro e w4 ⟨zr, rfl, hzr, br⟩)
      | (go_at_call 126; (with_reducible refine (wordZ _ _ (m % n) HTM.out HR1.out).mono ?_); rintro e w4 ⟨zr, rfl, hzr, br⟩))
    go_wp2
    go_ret2
    have hb1 : Below w.heap.size w w3 := blw_trans (blw_drewN (Below.refl _ _) _) bq
    exact .mk (.of_own (hzq.keep br) HQL.out) (.of_own hzr HRL.out) (blw_trans hb1 br)
  · have hs : 18446744073709551616 ≤ m ∨ (m < 18446744073709551616 ∧ 18446744073709551616 ≤ n) := by omega
    have CC := Lib.hid (fun (W : World) (h : Below w.heap.size w W) => numCmpW (hu.keep h) (hv.keep h))
    have CW := Lib.hid (numWord2W hu)
    have CV := Lib.hid (fun (W : World) (h : Below w.heap.size w W) => numWord2W (hv.keep h))
    have HU := Lib.hid hu
    have HV := Lib.hid hv
    clear hu hv
    go_enter Tryz.func140, Tryz.ntmps140
    rcases hs with hs | ⟨hs1, hs2⟩
    · have HU1 := Lib.hid (uintV_ge hs)
      clear hs
      go_wp2_with fail
      refine CW.out.mono ?_
      rintro e w1 ⟨rfl, j1, rfl⟩
      rw [HU1.out]
      have B1 := Lib.hid (show Below w.heap.size w (w.drewN j1) from blw_drewN (Below.refl _ _) _)
      generalize w.drewN j1 = w1 at *
      go_wp2_with fail
      refine (CC.out w1 B1.out).mono ?_
      rintro e w2 ⟨rfl, b2⟩
      have B2 := Lib.hid (blw_trans B1.out b2)
      clear b2 B1 CC CW CV
      by_cases hlt : m < n
      · rw [cmpN_lt hlt]
        have HQ := Lib.hid (Nat.div_eq_of_lt hlt)
        have HR := Lib.hid (Nat.mod_eq_of_lt hlt)
        have HX := Lib.hid (HU.out.1.keep B2.out)
        clear hlt
        go_wp2_with (at_builtin; go_loud (refine app_u32 _ rfl (.tmp 37) (.tmp 38) 41 41 rfl Tryz.underlying41 Tryz.underlying41 w2.heap.size _ _ [] (nf m) rfl rfl (own_lit w2 [] dig_nil (by simp) _ rfl) (HX.out.keep (blw_one _ _)) (by simp; omega) (by simp) ?_); intro v1 w3 o1 g1 _)
        have B3 := own_grown (own_lit w2 [] dig_nil (by simp) _ rfl) (blw_one _ _) g1 (Nat.le_refl _)
        go_ret2
        refine .mk (by rw [HQ.out]; exact Nn.nil _ _) ?_ (blw_trans B2.out B3)
        rw [HR.out]
        exact .of_own o1 (by omega)
      · have hge : ¬ (cmpN m n < 0) := by unfold cmpN; rw [if_neg hlt]; split <;> omega
        generalize cmpN m n = cc at *
        have hp := nf_len_pos hn
        by_cases h1 : (nf n).length = 1
        · have hb1 : (((nf n).length : Int) == 1) = true := by rw [h1]; rfl
          have hnB : n < 4294967296 := by have := lt_of_nf_len (Nat.le_of_eq h1); omega
          have hn0 : 0 < n := Nat.pos_of_ne_zero hn
          have hl1 : (nf m).length ≤ 200000 := by omega
          obtain ⟨_, _, e2, hcb, hcbm, _, hrb⟩ := HV.out.1.keep B2.out
          injection e2 with e2 e4 e5
          subst e2 e5
          obtain ⟨bb, offb, rfl, hcb2⟩ := hrb (by omega)
          have cb := hcb2 0 (by omega)
          have hnn : (nf n).getD 0 0 = n := by rw [nf_getD]; simp; omega
          rw [hnn, Nat.add_zero] at cb
          obtain ⟨_, _, e2, hca, hcam, hda, hra⟩ := HU.out.1.keep B2.out
          injection e2 with e2 e6 e7
          subst e2 e7
          have HLN := Lib.hid h1
          clear h1 e4 e6 hcb2 hrb hnn HU HV hlt hn hp
          have hbl : 0 < (nf n).length := by rw [HLN.out]; omega
          generalize (nf n).length = ln at *
          have HVM := Lib.hid (val_nf m)
          generalize hla : nf m = la at *
          clear hla
          go_wp2_with (at_make; go_loud (refine make_u32 _ rfl (.tmp 44) (.tmp 44) 24 rfl Tryz.underlying24 _ _ la.length rfl rfl (by omega) (by omega) (by omega) ?_); intro w3 R0 B0)
          go_loopw [11, 12] (fun c i wr => ∃ (k r : Nat) (L : List Nat), k ≤ la.length ∧ i = .int .i64 ((k : Int) - 1) ∧ c = .int .u32 r ∧ r < n ∧ Row wr w2.heap.size w2.heap.size la.length L ∧ Hid (L.length = la.length) ∧ Below w2.heap.size w2 wr ∧
              Hid (∀ j, j < k → L.getD j 0 = 0) ∧ Hid (4294967296 ^ k * val (la.drop k) = val L * n + 4294967296 ^ k * r)) (fun _ i _ => (intOf i + 1).toNat)
          case atStart => exact ⟨la.length, 0, _, Nat.le_refl _, rfl, rfl, hn0, R0, by show _ = _; simp, B0, fun j _ => getD_replicate _ _, by show _ = _; simp [val_replicate, val_nil]⟩
          case round =>
            obtain ⟨k, r, L, hk, rfl, rfl, hr, hR, hL, hB, hz, hv⟩ := hrel
            have hRl := hR.lt
            have hRc := hR.cap
            have cbr := hB.cell (p := ⟨bb, offb, none⟩) (lt_of_cell cb)
            rw [cb] at cbr
            by_cases hk1 : 1 ≤ k
            · obtain ⟨j, rfl⟩ : ∃ j, k = j + 1 := ⟨k - 1, by omega⟩
              obtain ⟨ba, offa, rfl, cA⟩ := hra.at hB (k := j) (by omega)
              have hx := dig_get hda j
              have hst := fun x hx => @short_step la L n r x j (by omega) hL.out hx hn0 hr hR.dig hda hz.out hv.out
              have hst := hst _ rfl
              generalize la.getD j 0 = x at *
              have cR := hR.cell (j := j) (by rw [hL.out]; omega)
              have fR := hR.free j
              generalize L.getD j 0 = zz at *
              have b0 : (0 : Int) ≤ (j : Int) := by omega
              have b1 : (j : Int) < (la.length : Int) := by omega
              have HST := Lib.hid hst
              have CD := Lib.hid (fun (W : World) => div32W (w := W) (h := r) (l := x) (y := n) hr hx hnB)
              have hba := hra.below (by omega) _ _ rfl
              have hbb := lt_of_cell cb
              have n1 : (⟨w2.heap.size, j, none⟩ : Addr) ≠ ⟨ba, offa + j, none⟩ := fun e => by injection e with e; (try dsimp only at hba); omega
              have n2 : (⟨w2.heap.size, j, none⟩ : Addr) ≠ ⟨bb, offb, none⟩ := fun e => by injection e with e; (try dsimp only at hbb); omega
              have CA := Lib.hid cA
              have CB := Lib.hid cbr
              have CRU := Lib.hid (hasU cR)
              have FR := Lib.hid fR
              have CR := Lib.hid cR
              clear hst hra
              go_wp2_with fail
              go_region_held3 (fun w' => w'.cell? ⟨ba, offa + j, none⟩ = some (.int .u32 (x : Int)) ∧ w'.cell? ⟨bb, offb, none⟩ = some (.int .u32 (n : Int)) ∧ w'.cell? ⟨w2.heap.size, j, none⟩ = some (.int .u32 (cellI w' ⟨w2.heap.size, j, none⟩)) ∧ w'.frozen? ⟨w2.heap.size, j, none⟩ = false)
                (first | exact ⟨CA.out, CB.out, CRU.out, FR.out⟩ | exact ⟨setn CA.out n1, setn CB.out n2, setUs CR.out, setf FR.out⟩)
                (first | (go_at_call 198; refine (CD.out _).mono ?_; rintro e w' ⟨rfl, jd, rfl⟩))
              go_split_ands
              have HS := Lib.hid ((hR.set j HST.out.1).keep (Below.refl _ _))
              clear CA CB CRU FR CR n1 n2
              go_wp2_with fail
              go_roundw
              case rel =>
                obtain ⟨s1, s2, s3, s4, s5⟩ := HST.out
                exact ⟨j, (x + 4294967296 * r) % n, L.set j ((x + 4294967296 * r) / n), by omega, by go_num, rfl, s2, hR.set j s1, by show _ = _; rw [List.length_set]; exact hL.out, (blw_drewN hB _).setCell (p := ⟨w2.heap.size, j, none⟩) (Nat.le_refl _) _, s4, s5⟩
              case measure => simp [intOf]
            · obtain rfl : k = 0 := by omega
              have HST := Lib.hid (short_end hr hv.out)
              have hRow2 : Own wr w2.heap.size (.slice (some ⟨w2.heap.size, 0, none⟩) la.length la.length) L := by
                have := hR
                unfold Row at this
                rw [hL.out] at this
                exact this
              have HRW := Lib.hid hRow2
              clear hRow2 hra
              go_wp2_with fail
              refine (numTrim_own _ _ _ _ HRW.out).mono ?_
              rintro e wa ⟨z, rfl, hz, rfl⟩
              have HZ := Lib.hid hz
              clear hz
              have HO := Lib.hid (own_lit wr [r] (dig1 (by omega)) (by simp) #[.int .u32 (r : Int)] rfl)
              go_wp2_with fail
              refine (numTrim_own _ _ _ _ HO.out).mono ?_
              rintro e wb ⟨z2, rfl, hz2, rfl⟩
              go_wp2
              go_ret2
              have hz' := HZ.out
              rw [HST.out.1, HVM.out] at hz'
              have hvr : val [r] = m % n := by
                rw [show val [r] = r by simp [val_cons, val_nil], ← HVM.out]; exact HST.out.2
              rw [hvr] at hz2
              exact .mk (.of_own (hz'.keep (blw_one _ _)) HQL.out) (.of_own hz2 HRL.out) (blw_alloc (blw_trans B2.out hB) _)
        · have hb1 : (((nf n).length : Int) == 1) = false := by rw [beq_eq_false_iff_ne]; omega
          have CL := Lib.hid (numLong_any w2 _ _ m n (HU.out.1.keep B2.out) (HV.out.1.keep B2.out) hn (by omega) (by omega))
          go_wp2_with fail
          refine CL.out.mono ?_
          rintro e w3 ⟨z, r, rfl, hz, hr, b3⟩
          go_wp2
          go_ret2
          exact .mk (.of_own hz HQL.out) (.of_own hr HRL.out) (blw_trans B2.out b3)
    · have HU1 := Lib.hid (uintV_lt hs1)
      have HU2 := Lib.hid (uintV_ge hs2)
      clear hs1 hs2
      go_wp2_with fail
      refine CW.out.mono ?_
      rintro e w1 ⟨rfl, j1, rfl⟩
      rw [HU1.out]
      go_wp2_with fail
      refine (CV.out _ (blw_drewN (Below.refl _ _) _)).mono ?_
      rintro e w2 ⟨rfl, j2, rfl⟩
      rw [HU2.out]
      have B1 := Lib.hid (show Below w.heap.size w (w.drewN (j1 + j2)) from blw_drewN (Below.refl _ _) _)
      go_wp2_with fail
      generalize w.drewN (j1 + j2) = w1 at *
      go_wp2_with fail
      refine (CC.out w1 B1.out).mono ?_
      rintro e w2 ⟨rfl, b2⟩
      have B2 := Lib.hid (blw_trans B1.out b2)
      clear b2 B1 CC CW CV
      by_cases hlt : m < n
      · rw [cmpN_lt hlt]
        have HQ := Lib.hid (Nat.div_eq_of_lt hlt)
        have HR := Lib.hid (Nat.mod_eq_of_lt hlt)
        have HX := Lib.hid (HU.out.1.keep B2.out)
        clear hlt
        go_wp2_with (at_builtin; go_loud (refine app_u32 _ rfl (.tmp 37) (.tmp 38) 41 41 rfl Tryz.underlying41 Tryz.underlying41 w2.heap.size _ _ [] (nf m) rfl rfl (own_lit w2 [] dig_nil (by simp) _ rfl) (HX.out.keep (blw_one _ _)) (by simp; omega) (by simp) ?_); intro v1 w3 o1 g1 _)
        have B3 := own_grown (own_lit w2 [] dig_nil (by simp) _ rfl) (blw_one _ _) g1 (Nat.le_refl _)
        go_ret2
        refine .mk (by rw [HQ.out]; exact Nn.nil _ _) ?_ (blw_trans B2.out B3)
        rw [HR.out]
        exact .of_own o1 (by omega)
      · have hge : ¬ (cmpN m n < 0) := by unfold cmpN; rw [if_neg hlt]; split <;> omega
        generalize cmpN m n = cc at *
        have hp := nf_len_pos hn
        by_cases h1 : (nf n).length = 1
        · have hb1 : (((nf n).length : Int) == 1) = true := by rw [h1]; rfl
          have hnB : n < 4294967296 := by have := lt_of_nf_len (Nat.le_of_eq h1); omega
          have hn0 : 0 < n := Nat.pos_of_ne_zero hn
          have hl1 : (nf m).length ≤ 200000 := by omega
          obtain ⟨_, _, e2, hcb, hcbm, _, hrb⟩ := HV.out.1.keep B2.out
          injection e2 with e2 e4 e5
          subst e2 e5
          obtain ⟨bb, offb, rfl, hcb2⟩ := hrb (by omega)
          have cb := hcb2 0 (by omega)
          have hnn : (nf n).getD 0 0 = n := by rw [nf_getD]; simp; omega
          rw [hnn, Nat.add_zero] at cb
          obtain ⟨_, _, e2, hca, hcam, hda, hra⟩ := HU.out.1.keep B2.out
          injection e2 with e2 e6 e7
          subst e2 e7
          have HLN := Lib.hid h1
          clear h1 e4 e6 hcb2 hrb hnn HU HV hlt hn hp
          have hbl : 0 < (nf n).length := by rw [HLN.out]; omega
          generalize (nf n).length = ln at *
          have HVM := Lib.hid (val_nf m)
          generalize hla : nf m = la at *
          clear hla
          go_wp2_with (at_make; go_loud (refine make_u32 _ rfl (.tmp 44) (.tmp 44) 24 rfl Tryz.underlying24 _ _ la.length rfl rfl (by omega) (by omega) (by omega) ?_); intro w3 R0 B0)
          go_loopw [11, 12] (fun c i wr => ∃ (k r : Nat) (L : List Nat), k ≤ la.length ∧ i = .int .i64 ((k : Int) - 1) ∧ c = .int .u32 r ∧ r < n ∧ Row wr w2.heap.size w2.heap.size la.length L ∧ Hid (L.length = la.length) ∧ Below w2.heap.size w2 wr ∧
              Hid (∀ j, j < k → L.getD j 0 = 0) ∧ Hid (4294967296 ^ k * val (la.drop k) = val L * n + 4294967296 ^ k * r)) (fun _ i _ => (intOf i + 1).toNat)
          case atStart => exact ⟨la.length, 0, _, Nat.le_refl _, rfl, rfl, hn0, R0, by show _ = _; simp, B0, fun j _ => getD_replicate _ _, by show _ = _; simp [val_replicate, val_nil]⟩
          case round =>
            obtain ⟨k, r, L, hk, rfl, rfl, hr, hR, hL, hB, hz, hv⟩ := hrel
            have hRl := hR.lt
            have hRc := hR.cap
            have cbr := hB.cell (p := ⟨bb, offb, none⟩) (lt_of_cell cb)
            rw [cb] at cbr
            by_cases hk1 : 1 ≤ k
            · obtain ⟨j, rfl⟩ : ∃ j, k = j + 1 := ⟨k - 1, by omega⟩
              obtain ⟨ba, offa, rfl, cA⟩ := hra.at hB (k := j) (by omega)
              have hx := dig_get hda j
              have hst := fun x hx => @short_step la L n r x j (by omega) hL.out hx hn0 hr hR.dig hda hz.out hv.out
              have hst := hst _ rfl
              generalize la.getD j 0 = x at *
              have cR := hR.cell (j := j) (by rw [hL.out]; omega)
              have fR := hR.free j
              generalize L.getD j 0 = zz at *
              have b0 : (0 : Int) ≤ (j : Int) := by omega
              have b1 : (j : Int) < (la.length : Int) := by omega
              have HST := Lib.hid hst
              have CD := Lib.hid (fun (W : World) => div32W (w := W) (h := r) (l := x) (y := n) hr hx hnB)
              have hba := hra.below (by omega) _ _ rfl
              have hbb := lt_of_cell cb
              have n1 : (⟨w2.heap.size, j, none⟩ : Addr) ≠ ⟨ba, offa + j, none⟩ := fun e => by injection e with e; (try dsimp only at hba); omega
              have n2 : (⟨w2.heap.size, j, none⟩ : Addr) ≠ ⟨bb, offb, none⟩ := fun e => by injection e with e; (try dsimp only at hbb); omega
              have CA := Lib.hid cA
              have CB := Lib.hid cbr
              have CRU := Lib.hid (hasU cR)
              have FR := Lib.hid fR
              have CR := Lib.hid cR
              clear hst hra
              go_wp2_with fail
              go_region_held3 (fun w' => w'.cell? ⟨ba, offa + j, none⟩ = some (.int .u32 (x : Int)) ∧ w'.cell? ⟨bb, offb, none⟩ = some (.int .u32 (n : Int)) ∧ w'.cell? ⟨w2.heap.size, j, none⟩ = some (.int .u32 (cellI w' ⟨w2.heap.size, j, none⟩)) ∧ w'.frozen? ⟨w2.heap.size, j, none⟩ = false)
                (first | exact ⟨CA.out, CB.out, CRU.out, FR.out⟩ | exact ⟨setn CA.out n1, setn CB.out n2, setUs CR.out, setf FR.out⟩)
                (first | (go_at_call 198; refine (CD.out _).mono ?_; rintro e w' ⟨rfl, jd, rfl⟩))
              go_split_ands
              have HS := Lib.hid ((hR.set j HST.out.1).keep (Below.refl _ _))
              clear CA CB CRU FR CR n1 n2
              go_wp2_with fail
              go_roundw
              case rel =>
                obtain ⟨s1, s2, s3, s4, s5⟩ := HST.out
                exact ⟨j, (x + 4294967296 * r) % n, L.set j ((x + 4294967296 * r) / n), by omega, by go_num, rfl, s2, hR.set j s1, by show _ = _; rw [List.length_set]; exact hL.out, (blw_drewN hB _).setCell (p := ⟨w2.heap.size, j, none⟩) (Nat.le_refl _) _, s4, s5⟩
              case measure => simp [intOf]
            · obtain rfl : k = 0 := by omega
              have HST := Lib.hid (short_end hr hv.out)
              have hRow2 : Own wr w2.heap.size (.slice (some ⟨w2.heap.size, 0, none⟩) la.length la.length) L := by
                have := hR
                unfold Row at this
                rw [hL.out] at this
                exact this
              have HRW := Lib.hid hRow2
              clear hRow2 hra
              go_wp2_with fail
              refine (numTrim_own _ _ _ _ HRW.out).mono ?_
              rintro e wa ⟨z, rfl, hz, rfl⟩
              have HZ := Lib.hid hz
              clear hz
              have HO := Lib.hid (own_lit wr [r] (dig1 (by omega)) (by simp) #[.int .u32 (r : Int)] rfl)
              go_wp2_with fail
              refine (numTrim_own _ _ _ _ HO.out).mono ?_
              rintro e wb ⟨z2, rfl, hz2, rfl⟩
              go_wp2
              go_ret2
              have hz' := HZ.out
              rw [HST.out.1, HVM.out] at hz'
              have hvr : val [r] = m % n := by
                rw [show val [r] = r by simp [val_cons, val_nil], ← HVM.out]; exact HST.out.2
              rw [hvr] at hz2
              exact .mk (.of_own (hz'.keep (blw_one _ _)) HQL.out) (.of_own hz2 HRL.out) (blw_alloc (blw_trans B2.out hB) _)
        · have hb1 : (((nf n).length : Int) == 1) = false := by rw [beq_eq_false_iff_ne]; omega
          have CL := Lib.hid (numLong_any w2 _ _ m n (HU.out.1.keep B2.out) (HV.out.1.keep B2.out) hn (by omega) (by omega))
          go_wp2_with fail
          refine CL.out.mono ?_
          rintro e w3 ⟨z, r, rfl, hz, hr, b3⟩
          go_wp2
          go_ret2
          exact .mk (.of_own hz HQL.out) (.of_own hr HRL.out) (blw_trans B2.out b3)
end Go.Proofs.YtdlnoeegboapkaaGreatDoor

/- Contracts as one step of a walk, and what is kept while the tape is read on. printed by a small program (mkcall.py). -/
namespace Go.Proofs.YtdlnoeegboapkaaGreatDoor
open Go.RowKit

theorem Calls.kN {P : Program} {f : FuncId} {args : Array Value} {w : World} {n k : Nat} {K : Ending → World → Prop} (h : Calls P f args w (RetN w n k))
    (hK : ∀ w', Below w.heap.size w w' → w.heap.size ≤ w'.heap.size → ∀ a l c, Nn w' (.slice a l c) n k → K (.returned (.slice a l c)) w') : Calls P f args w K := by
  refine h.mono ?_
  rintro e w' ⟨a, l, c, rfl, hn, hb⟩
  exact hK w' hb hb.size a l c hn
theorem Calls.kR {P : Program} {f : FuncId} {args : Array Value} {w : World} {n k : Nat} {K : Ending → World → Prop} (h : Calls P f args w (RetR w n k))
    (hK : ∀ w', Below w.heap.size w w' → w.heap.size ≤ w'.heap.size → ∀ a l c, Rr w' (.slice a l c) n k → K (.returned (.slice a l c)) w') : Calls P f args w K := by
  refine h.mono ?_
  rintro e w' ⟨a, l, c, rfl, hn, hb⟩
  exact hK w' hb hb.size a l c hn
theorem Calls.kE {P : Program} {f : FuncId} {args : Array Value} {w : World} {v : Value} {K : Ending → World → Prop} (h : Calls P f args w (fun e w' => e = .returned v ∧ Below w.heap.size w w'))
    (hK : ∀ w', Below w.heap.size w w' → w.heap.size ≤ w'.heap.size → K (.returned (v)) w') : Calls P f args w K := by
  refine h.mono ?_
  rintro e w' ⟨rfl, hb⟩
  exact hK w' hb hb.size
theorem Calls.kS {P : Program} {f : FuncId} {args : Array Value} {w : World} {v : Value} {K : Ending → World → Prop} (h : Calls P f args w (fun e w' => e = .returned v ∧ w = w'))
    (hK : K (.returned v) w) : Calls P f args w K := by
  refine h.mono ?_
  rintro e w' ⟨rfl, rfl⟩
  exact hK
theorem Calls.kZ {P : Program} {f : FuncId} {args : Array Value} {w : World} {z : Int} {k : Nat} {K : Ending → World → Prop} (h : Calls P f args w (RetZ w z k))
    (hK : ∀ w', Below w.heap.size w w' → w.heap.size ≤ w'.heap.size → ∀ g a l c, Zz w' g (.slice a l c) z k → K (.returned (.agg #[.bool g, .slice a l c])) w') : Calls P f args w K := by
  refine h.mono ?_
  rintro e w' ⟨g, a, l, c, rfl, hn, hb⟩
  exact hK w' hb hb.size g a l c hn
theorem Calls.kSg {P : Program} {f : FuncId} {args : Array Value} {w : World} {a : Option Addr} {l c k : Nat} {z : Int} {K : Ending → World → Prop} (h : Calls P f args w (fun e w' => ∃ g', e = .returned (.agg #[.bool g', .slice a l c]) ∧ Zz w' g' (.slice a l c) z k ∧ Below w.heap.size w w'))
    (hK : ∀ w', Below w.heap.size w w' → w.heap.size ≤ w'.heap.size → ∀ g, Zz w' g (.slice a l c) z k → K (.returned (.agg #[.bool g, .slice a l c])) w') : Calls P f args w K := by
  refine h.mono ?_
  rintro e w' ⟨g, rfl, hn, hb⟩
  exact hK w' hb hb.size g hn
theorem Calls.kDZ {P : Program} {f : FuncId} {args : Array Value} {w : World} {x y : Int} {k : Nat} {K : Ending → World → Prop} (h : Calls P f args w (DivZ w x y k))
    (hK : ∀ w', Below w.heap.size w w' → w.heap.size ≤ w'.heap.size → ∀ g a l c g2 a2 l2 c2, Zz w' g (.slice a l c) (x / y) k → Zz w' g2 (.slice a2 l2 c2) (if y = 0 then 0 else x % y) k → K (.returned (.tuple #[.agg #[.bool g, .slice a l c], .agg #[.bool g2, .slice a2 l2 c2], .bool (decide (y ≠ 0))])) w') : Calls P f args w K := by
  refine h.mono ?_
  rintro e w' ⟨g, a, l, c, g2, a2, l2, c2, rfl, h1, h2, hb⟩
  exact hK w' hb hb.size g a l c g2 a2 l2 c2 h1 h2
theorem Calls.kQ {P : Program} {f : FuncId} {args : Array Value} {w : World} {q r k : Nat} {K : Ending → World → Prop} (h : Calls P f args w (RetQR w q r k))
    (hK : ∀ w', Below w.heap.size w w' → w.heap.size ≤ w'.heap.size → ∀ a l c a2 l2 c2, Nn w' (.slice a l c) q k → Nn w' (.slice a2 l2 c2) r k → K (.returned (.tuple #[.slice a l c, .slice a2 l2 c2])) w') : Calls P f args w K := by
  refine h.mono ?_
  rintro e w' ⟨a, l, c, a2, l2, c2, rfl, h1, h2, hb⟩
  exact hK w' hb hb.size a l c a2 l2 c2 h1 h2
theorem Calls.kNext {P : Program} {f : FuncId} {args : Array Value} {w : World} {g : Nat} {n : Int} {K : Ending → World → Prop} (h : Calls P f args w (fun e w' => ∃ v : Int, e = .returned (.int .i64 v) ∧ 0 ≤ v ∧ v < n ∧ TapeAt w' g ∧ w.grownBy w' (some g)))
    (hK : ∀ w', w.grownBy w' (some g) → w.heap.size ≤ w'.heap.size → TapeAt w' g → g < w'.heap.size → ∀ v : Int, 0 ≤ v → v < n → K (.returned (.int .i64 v)) w') : Calls P f args w K := by
  refine h.mono ?_
  rintro e w' ⟨v, rfl, h0, h1, ht, hg⟩
  exact hK w' hg hg.size ht ht.lt v h0 h1
theorem Calls.kTN {P : Program} {f : FuncId} {args : Array Value} {w : World} {g d : Nat} {K : Ending → World → Prop} (h : Calls P f args w (fun e w' => ∃ a l c m, e = .returned (.slice a l c) ∧ Nn w' (.slice a l c) m d ∧ TapeAt w' g ∧ w.grownBy w' (some g)))
    (hK : ∀ w', w.grownBy w' (some g) → w.heap.size ≤ w'.heap.size → TapeAt w' g → g < w'.heap.size → ∀ a l c m, Nn w' (.slice a l c) m d → K (.returned (.slice a l c)) w') : Calls P f args w K := by
  refine h.mono ?_
  rintro e w' ⟨a, l, c, m, rfl, h0, ht, hg⟩
  exact hK w' hg hg.size ht ht.lt a l c m h0
theorem Calls.kNew {P : Program} {f : FuncId} {args : Array Value} {w : World} {v : Value} {g : Nat} {K : Ending → World → Prop} (h : Calls P f args w (fun e w' => e = .returned v ∧ TapeAt w' g ∧ Below w.heap.size w w'))
    (hK : ∀ w', Below w.heap.size w w' → w.heap.size ≤ w'.heap.size → TapeAt w' g → g < w'.heap.size → K (.returned v) w') : Calls P f args w K := by
  refine h.mono ?_
  rintro e w' ⟨rfl, ht, hb⟩
  exact hK w' hb hb.size ht ht.lt
/-- What the tape's Int, and the laws' made, give. -/
def TapeZ (w : World) (g k : Nat) (e : Ending) (w' : World) : Prop := ∃ b a l c z, e = .returned (.agg #[.bool b, .slice a l c]) ∧ Zz w' b (.slice a l c) z k ∧ TapeAt w' g ∧ w.grownBy w' (some g)
def TapeI (w : World) (g k : Nat) (e : Ending) (w' : World) : Prop := ∃ b a l c z, e = .returned (.agg #[.bool b, .slice a l c]) ∧ Zi w' b (.slice a l c) z k ∧ TapeAt w' g ∧ w.grownBy w' (some g)
theorem Calls.kTZ {P : Program} {f : FuncId} {args : Array Value} {w : World} {g k : Nat} {K : Ending → World → Prop} (h : Calls P f args w (TapeZ w g k))
    (hK : ∀ w', w.grownBy w' (some g) → w.heap.size ≤ w'.heap.size → TapeAt w' g → g < w'.heap.size → ∀ b a l c z, Zz w' b (.slice a l c) z k → K (.returned (.agg #[.bool b, .slice a l c])) w') : Calls P f args w K := by
  refine h.mono ?_
  rintro e w' ⟨b, a, l, c, z, rfl, h0, ht, hg⟩
  exact hK w' hg hg.size ht ht.lt b a l c z h0
theorem Calls.kTI {P : Program} {f : FuncId} {args : Array Value} {w : World} {g k : Nat} {K : Ending → World → Prop} (h : Calls P f args w (TapeI w g k))
    (hK : ∀ w', w.grownBy w' (some g) → w.heap.size ≤ w'.heap.size → TapeAt w' g → g < w'.heap.size → ∀ b a l c z, Zi w' b (.slice a l c) z k → K (.returned (.agg #[.bool b, .slice a l c])) w') : Calls P f args w K := by
  refine h.mono ?_
  rintro e w' ⟨b, a, l, c, z, rfl, h0, ht, hg⟩
  exact hK w' hg hg.size ht ht.lt b a l c z h0
theorem Zz.tp2 {W W2 : World} {g : Nat} {b : Bool} {s : Value} {z : Int} {k : Nat} (hg : W.grownBy W2 (some g)) (ht : TapeAt W g) (h : Zz W b s z k) : Zz W2 b s z k := by
  exact ⟨h.1, Nn.tp2 hg ht h.2⟩
theorem Zi.tp2 {W W2 : World} {g : Nat} {b : Bool} {s : Value} {z : Int} {k : Nat} (hg : W.grownBy W2 (some g)) (ht : TapeAt W g) (h : Zi W b s z k) : Zi W2 b s z k := by
  obtain ⟨n, h1, h2⟩ := h
  exact ⟨n, Rr.tp2 hg ht h1, h2⟩
/-- An operation whose guard has not been reckoned is passed over. -/
theorem ite_none {c : Option Bool} {b : Bool} {P Q : Prop} [Decidable (c = some b)] (hc : c = none) (h : Q) : if c = some b then P else Q := by
  rw [if_neg (by rw [hc]; exact fun e => nomatch e)]; exact h
theorem cellTp {W W2 : World} {g : Nat} {a : Addr} {v : Value} (hg : W.grownBy W2 (some g)) (hne : a.block ≠ g) (h : W.cell? a = some v) : W2.cell? a = some v :=
  hg.cell h (fun e => hne (Option.some.inj e))
theorem Fz.tp {W W2 : World} {g : Nat} {a : Addr} (hg : W.grownBy W2 (some g)) (hne : a.block ≠ g) (h : Fz W a) : Fz W2 a := by
  obtain ⟨⟨v, hv⟩, hf⟩ := h
  exact ⟨⟨v, cellTp hg hne hv⟩, (hg.frozen_far a (lt_of_cell hv) (fun e => hne (Option.some.inj e))).trans hf⟩
/-! ### worlds in which the tape alone has changed -/
theorem gb_al {w W : World} {g : Nat} {o : Obj} (h : w.grownBy W (some g)) : w.grownBy (W.alloc o) (some g) := gb_below h (blw_one _ _)
theorem gb_dr {w W : World} {g : Nat} (h : w.grownBy W (some g)) : w.grownBy W.drew (some g) := gb_below h (blw_drew (Below.refl _ _))
theorem gb_drN {w W : World} {g j : Nat} (h : w.grownBy W (some g)) : w.grownBy (W.drewN j) (some g) := gb_below h (blw_drewN (Below.refl _ _) j)
theorem gb_keep2 {w W W2 : World} {g : Nat} (hb : Below W.heap.size W W2) (h : w.grownBy W (some g)) : w.grownBy W2 (some g) := gb_below h hb
theorem gb_tp2 {w W W2 : World} {g : Nat} (hg : W.grownBy W2 (some g)) (h : w.grownBy W (some g)) : w.grownBy W2 (some g) := gb_trans h hg
theorem gb_set {w W : World} {g : Nat} {p : Addr} {x : Value} (hp : w.heap.size ≤ p.block) (h : w.grownBy W (some g)) : w.grownBy (W.setCell p x) (some g) :=
  ⟨h.os, h.tape, h.output, by simpa using h.size, fun i hi hne => by rw [Below.heap_setCell _ _ _ _ (by omega)]; exact h.block i hi hne⟩
end Go.Proofs.YtdlnoeegboapkaaGreatDoor

/- What a walk knows of memory, as classes: readings of numbers, boxes of the call's own with what they hold, and the order of the worlds. The premises of a contract are then found by instance search. printed by a small program (mkcls.py). -/
namespace Go.Proofs.YtdlnoeegboapkaaGreatDoor
open Go.RowKit

/-- From W to W2 only new memory was written. -/
class Kp1 (W : outParam World) (W2 : World) : Prop where out : Below W.heap.size W W2
/-- From W to W2 the tape in block g was read on; else only new memory was written. -/
class Tp1 (W : outParam World) (W2 : World) (g : outParam Nat) : Prop where
  gb : W.grownBy W2 (some g)
  tp : TapeAt W g
/-- The number of blocks. -/
class Sz (W : World) (b : outParam Nat) : Prop where out : W.heap.size = b
instance (priority := low) Sz.base {W : World} : Sz W W.heap.size := ⟨rfl⟩
instance Sz.al {W : World} {b : Nat} {o : Obj} [h : Sz W b] : Sz (W.alloc o) (b + 1) := ⟨by rw [World.size_alloc, h.out]⟩
instance Sz.dr {W : World} {b : Nat} [h : Sz W b] : Sz W.drew b := ⟨h.out⟩
instance Sz.drN {W : World} {b j : Nat} [h : Sz W b] : Sz (W.drewN j) b := ⟨h.out⟩
instance Sz.st {W : World} {b : Nat} {p : Addr} {x : Value} [h : Sz W b] : Sz (W.setCell p x) b := ⟨by rw [World.size_setCell, h.out]⟩
/-- No digit. -/
class Ndg (v : Value) : Prop where out : isDigit32 v = false
instance {b : Bool} : Ndg (.bool b) := ⟨rfl⟩
instance {a : Option Addr} {l c : Nat} : Ndg (.slice a l c) := ⟨rfl⟩
instance {a : Option Addr} : Ndg (.pointer a) := ⟨rfl⟩
instance {n : Int} : Ndg (.int .i64 n) := ⟨rfl⟩
instance {n : Int} : Ndg (.int .u64 n) := ⟨rfl⟩
class Ndl (l : List Value) : Prop where out : ∀ u ∈ l, isDigit32 u = false
instance Ndl.nil : Ndl [] := ⟨fun _ h => nomatch h⟩
instance Ndl.cons {v : Value} {l : List Value} [h1 : Ndg v] [h2 : Ndl l] : Ndl (v :: l) := ⟨fun u h => by
  rcases List.mem_cons.1 h with rfl | h
  · exact h1.out
  · exact h2.out _ h⟩
instance Ndl.set {v : Value} {l : List Value} {i : Nat} [h1 : Ndg v] [h2 : Ndl l] : Ndl (l.set i v) := ⟨fun u h => by
  rcases List.mem_or_eq_of_mem_set h with h | rfl
  · exact h2.out _ h
  · exact h1.out⟩
/-- Types of boxes: neither digits nor the tape nor a pair of big numbers. -/
class BoxT (t : TypeId) : Prop where
  tape : t ≠ 108
  pair : t ≠ 300
instance : BoxT 27 := by constructor <;> decide
instance : BoxT 29 := by constructor <;> decide
instance : BoxT 31 := by constructor <;> decide
instance : BoxT 156 := by constructor <;> decide
instance : BoxT 43 := by constructor <;> decide
instance : BoxT 45 := by constructor <;> decide
instance : BoxT 47 := by constructor <;> decide
instance : BoxT 163 := by constructor <;> decide
instance : BoxT 147 := by constructor <;> decide
instance : BoxT 152 := by constructor <;> decide
instance : BoxT 178 := by constructor <;> decide
instance : BoxT 180 := by constructor <;> decide
instance : BoxT 182 := by constructor <;> decide
instance : BoxT 158 := by constructor <;> decide
instance : BoxT 160 := by constructor <;> decide
instance : BoxT 4 := by constructor <;> decide
instance : BoxT 3 := by constructor <;> decide
instance : BoxT 2 := by constructor <;> decide
instance : BoxT 205 := by constructor <;> decide
instance : BoxT 165 := by constructor <;> decide
instance : BoxT 167 := by constructor <;> decide
instance : BoxT 25 := by constructor <;> decide
instance : BoxT 41 := by constructor <;> decide
instance : BoxT 24 := by constructor <;> decide
instance : BoxT 36 := by constructor <;> decide
instance : BoxT 9 := by constructor <;> decide
/-- a is less than b. -/
class LtN (a b : Nat) : Prop where out : a < b
class NeN (a b : Nat) : Prop where out : a ≠ b
instance LtN.one {a : Nat} : LtN a (a + 1) := ⟨Nat.lt_succ_self a⟩
instance (priority := low) LtN.step {a b : Nat} [h : LtN a b] : LtN a (b + 1) := ⟨Nat.lt_succ_of_lt h.out⟩
instance NeN.l {a b : Nat} [h : LtN a b] : NeN a b := ⟨Nat.ne_of_lt h.out⟩
instance NeN.r {a b : Nat} [h : LtN b a] : NeN a b := ⟨Nat.ne_of_gt h.out⟩
theorem heap_al_lt {W : World} {o : Obj} {b : Nat} (h : b < W.heap.size) : (W.alloc o).heap[b]? = W.heap[b]? := by
  simp only [World.alloc, Array.getElem?_push]; rw [if_neg (by omega)]
theorem heap_al_new {W : World} {o : Obj} : (W.alloc o).heap[W.heap.size]? = some o := by
  show (W.heap.push o)[W.heap.size]? = some o
  simp
/-- The box b holds the cells l; it is of type t. -/
class Bx (W : World) (b : Nat) (t : outParam TypeId) (l : outParam (List Value)) : Prop where out : W.heap[b]? = some (.cells l.toArray t (0, 0))
theorem Bx.lt {W : World} {b : Nat} {t : TypeId} {l : List Value} (h : Bx W b t l) : b < W.heap.size := heap_lt h.out
instance Bx.new {W : World} {b : Nat} {t : TypeId} {l : List Value} [h : Sz W b] : Bx (W.alloc (.cells l.toArray t (0, 0))) b t l := ⟨by rw [← h.out]; exact heap_al_new⟩
instance (priority := low) Bx.al {W : World} {b : Nat} {t : TypeId} {l : List Value} {o : Obj} [h : Bx W b t l] : Bx (W.alloc o) b t l := ⟨by rw [heap_al_lt h.lt]; exact h.out⟩
instance Bx.dr {W : World} {b : Nat} {t : TypeId} {l : List Value} [h : Bx W b t l] : Bx W.drew b t l := ⟨h.out⟩
instance Bx.drN {W : World} {b j : Nat} {t : TypeId} {l : List Value} [h : Bx W b t l] : Bx (W.drewN j) b t l := ⟨h.out⟩
instance Bx.kp {W W2 : World} {b : Nat} {t : TypeId} {l : List Value} [k : Kp1 W W2] [h : Bx W b t l] : Bx W2 b t l := ⟨by rw [k.out.block b h.lt]; exact h.out⟩
instance Bx.tp {W W2 : World} {b g : Nat} {t : TypeId} {l : List Value} [k : Tp1 W W2 g] [h : Bx W b t l] [ht : BoxT t] : Bx W2 b t l := ⟨by
  rw [k.gb.block b h.lt ?_]
  · exact h.out
  · intro e
    injection e with e
    subst e
    obtain ⟨a, n, c, at_, zs, hh, _⟩ := k.tp
    rw [h.out] at hh
    injection hh with hh
    injection hh with _ h2
    exact ht.tape h2⟩
instance (priority := low) Bx.setO {W : World} {b q i : Nat} {x : Value} {t : TypeId} {l : List Value} [h : Bx W b t l] [n : NeN q b] : Bx (W.setCell ⟨q, i, none⟩ x) b t l := ⟨by
  simp only [World.setCell, Array.getElem?_modify]
  rw [if_neg n.out]; exact h.out⟩
instance Bx.setS {W : World} {b i : Nat} {x : Value} {t : TypeId} {l : List Value} [h : Bx W b t l] : Bx (W.setCell ⟨b, i, none⟩ x) b t (l.set i x) := ⟨by
  simp only [World.setCell, Array.getElem?_modify, if_pos]
  rw [h.out]; simp⟩
instance LtN.bx {W : World} {b : Nat} {t : TypeId} {l : List Value} [h : Bx W b t l] : LtN b W.heap.size := ⟨h.lt⟩
@[go_sem] theorem cell_bx {W : World} {b i : Nat} {t : TypeId} {l : List Value} [h : Bx W b t l] : W.cell? ⟨b, i, none⟩ = l[i]? := by
  simp [World.cell?, h.out]
@[go_sem] theorem frozen_bx {W : World} {b i : Nat} {t : TypeId} {l : List Value} [h : Bx W b t l] : W.frozen? ⟨b, i, none⟩ = false := by
  simp [World.frozen?, h.out]
/-- A box that no reading looks into. -/
class SoftB (W : World) (b : Nat) : Prop where out : ∃ t l, W.heap[b]? = some (.cells (List.toArray l) t (0, 0)) ∧ BoxT t ∧ ∀ u ∈ l, isDigit32 u = false
instance SoftB.mk' {W : World} {b : Nat} {t : TypeId} {l : List Value} [h : Bx W b t l] [ht : BoxT t] [hl : Ndl l] : SoftB W b := ⟨t, l, h.out, ht, hl.out⟩
theorem SoftB.no {W : World} {q i : Nat} {u : Value} (h : SoftB W q) (hc : W.cell? ⟨q, i, none⟩ = some u) : isDigit32 u = false := by
  obtain ⟨t, l, h1, _, h2⟩ := h.out
  simp only [World.cell?, h1] at hc
  have hc : l[i]? = some u := by simpa using hc
  exact h2 u (List.mem_of_getElem? hc)
/-- All new memory lies from w's end on. -/
class Kp (w W : World) : Prop where out : Below w.heap.size w W
class Ge (w : World) (b : Nat) : Prop where out : w.heap.size ≤ b
instance Ge.base {w : World} : Ge w w.heap.size := ⟨Nat.le_refl _⟩
instance Ge.step {w : World} {b : Nat} [h : Ge w b] : Ge w (b + 1) := ⟨Nat.le_succ_of_le h.out⟩
instance (priority := low) Ge.sz {w : World} {b : Nat} [h : Sz w b] : Ge w b := ⟨Nat.le_of_eq h.out⟩
instance (priority := low) Ge.kp {w W : World} [h : Kp w W] : Ge w W.heap.size := ⟨h.out.size⟩
instance Kp.refl {w : World} : Kp w w := ⟨Below.refl _ _⟩
instance Kp.al {w W : World} {o : Obj} [h : Kp w W] : Kp w (W.alloc o) := ⟨blw_alloc h.out o⟩
instance Kp.dr {w W : World} [h : Kp w W] : Kp w W.drew := ⟨blw_drew h.out⟩
instance Kp.drN {w W : World} {j : Nat} [h : Kp w W] : Kp w (W.drewN j) := ⟨blw_drewN h.out j⟩
instance Kp.st {w W : World} {q i : Nat} {x : Value} [h : Kp w W] [g : Ge w q] : Kp w (W.setCell ⟨q, i, none⟩ x) := ⟨blw_set x h.out g.out⟩
instance (priority := low) Kp.kp {w W W2 : World} [k : Kp1 W W2] [h : Kp w W] : Kp w W2 := ⟨blw_trans h.out k.out⟩
instance (priority := low) Kp.tp {w W W2 : World} {g : Nat} [k : Tp1 W W2 g] [h : Kp w W] [n : Ge w g] : Kp w W2 := ⟨blw_tp h.out k.gb n.out⟩
/-- The tape. -/
class Ct (W : World) (g : Nat) : Prop where out : TapeAt W g
instance Ct.al {W : World} {g : Nat} {o : Obj} [h : Ct W g] : Ct (W.alloc o) g := ⟨h.out.al⟩
instance Ct.dr {W : World} {g : Nat} [h : Ct W g] : Ct W.drew g := ⟨h.out.dr⟩
instance Ct.drN {W : World} {g j : Nat} [h : Ct W g] : Ct (W.drewN j) g := ⟨h.out.drN⟩
instance Ct.kp {W W2 : World} {g : Nat} [k : Kp1 W W2] [h : Ct W g] : Ct W2 g := ⟨h.out.keep k.out⟩
instance Ct.st {W : World} {g q i : Nat} {x : Value} [h : Ct W g] [n : LtN g q] : Ct (W.setCell ⟨q, i, none⟩ x) g := ⟨h.out.set2 n.out⟩
instance LtN.ct {W : World} {g : Nat} [h : Ct W g] : LtN g W.heap.size := ⟨h.out.lt⟩
/-- From w on, the tape g apart, only new memory was written. -/
class Gb (w W : World) (g : Nat) : Prop where out : w.grownBy W (some g)
instance Gb.refl {w : World} {g : Nat} : Gb w w g := ⟨gb_refl _ _⟩
instance Gb.al {w W : World} {g : Nat} {o : Obj} [h : Gb w W g] : Gb w (W.alloc o) g := ⟨gb_al h.out⟩
instance Gb.dr {w W : World} {g : Nat} [h : Gb w W g] : Gb w W.drew g := ⟨gb_dr h.out⟩
instance Gb.drN {w W : World} {g j : Nat} [h : Gb w W g] : Gb w (W.drewN j) g := ⟨gb_drN h.out⟩
instance (priority := low) Gb.kp {w W W2 : World} {g : Nat} [k : Kp1 W W2] [h : Gb w W g] : Gb w W2 g := ⟨gb_keep2 k.out h.out⟩
instance (priority := low) Gb.tp {w W W2 : World} {g : Nat} [k : Tp1 W W2 g] [h : Gb w W g] : Gb w W2 g := ⟨gb_tp2 k.gb h.out⟩
/-- There are no fewer blocks. -/
class Kz (w W : World) : Prop where out : w.heap.size ≤ W.heap.size
instance Kz.refl {w : World} : Kz w w := ⟨Nat.le_refl _⟩
instance Kz.al {w W : World} {o : Obj} [h : Kz w W] : Kz w (W.alloc o) := ⟨by rw [World.size_alloc]; exact Nat.le_succ_of_le h.out⟩
instance Kz.dr {w W : World} [h : Kz w W] : Kz w W.drew := ⟨h.out⟩
instance Kz.drN {w W : World} {j : Nat} [h : Kz w W] : Kz w (W.drewN j) := ⟨h.out⟩
instance Kz.st {w W : World} {p : Addr} {x : Value} [h : Kz w W] : Kz w (W.setCell p x) := ⟨by rw [World.size_setCell]; exact h.out⟩
instance (priority := low) Kz.kp {w W W2 : World} [k : Kp1 W W2] [h : Kz w W] : Kz w W2 := ⟨Nat.le_trans h.out k.out.size⟩
instance (priority := low) Kz.tp {w W W2 : World} {g : Nat} [k : Tp1 W W2 g] [h : Kz w W] : Kz w W2 := ⟨Nat.le_trans h.out k.gb.size⟩
class Gg (w : World) (b : Nat) : Prop where out : w.heap.size ≤ b
instance Gg.base {w : World} : Gg w w.heap.size := ⟨Nat.le_refl _⟩
instance Gg.step {w : World} {b : Nat} [h : Gg w b] : Gg w (b + 1) := ⟨Nat.le_succ_of_le h.out⟩
instance (priority := low) Gg.sz {w : World} {b : Nat} [h : Sz w b] : Gg w b := ⟨Nat.le_of_eq h.out⟩
instance (priority := low) Gg.gb {w W : World} [h : Kz w W] : Gg w W.heap.size := ⟨h.out⟩
instance Gb.st {w W : World} {g q i : Nat} {x : Value} [h : Gb w W g] [n : Gg w q] : Gb w (W.setCell ⟨q, i, none⟩ x) g := ⟨gb_set n.out h.out⟩
/-- W is as W0 was in the blocks that were there, but for those of L. -/
class Ex (W0 : World) (L : List Nat) (W : World) : Prop where
  size : W0.heap.size ≤ W.heap.size
  block : ∀ k, k < W0.heap.size → k ∉ L → W.heap[k]? = W0.heap[k]?
/-- The same as a fact of the walk. -/
class Ex1 (W0 : outParam World) (L : outParam (List Nat)) (W : World) : Prop where out : Ex W0 L W
class InL (q : Nat) (L : List Nat) : Prop where out : q ∈ L
instance InL.hd {q : Nat} {L : List Nat} : InL q (q :: L) := ⟨List.mem_cons_self ..⟩
instance (priority := low) InL.tl {q x : Nat} {L : List Nat} [h : InL q L] : InL q (x :: L) := ⟨List.mem_cons_of_mem _ h.out⟩
class NoL (q : Nat) (L : List Nat) : Prop where out : q ∉ L
instance NoL.nil {q : Nat} : NoL q [] := ⟨fun h => nomatch h⟩
instance NoL.cons {q x : Nat} {L : List Nat} [h1 : NeN q x] [h2 : NoL q L] : NoL q (x :: L) := ⟨fun h => (List.mem_cons.1 h).elim h1.out h2.out⟩
instance Ex.refl {W : World} {L : List Nat} : Ex W L W := ⟨Nat.le_refl _, fun _ _ _ => rfl⟩
instance Ex.dr {W0 W : World} {L : List Nat} [h : Ex W0 L W] : Ex W0 L W.drew := ⟨h.size, h.block⟩
instance Ex.drN {W0 W : World} {L : List Nat} {j : Nat} [h : Ex W0 L W] : Ex W0 L (W.drewN j) := ⟨h.size, h.block⟩
instance Ex.al {W0 W : World} {L : List Nat} {o : Obj} [h : Ex W0 L W] : Ex W0 L (W.alloc o) :=
  ⟨by rw [World.size_alloc]; exact Nat.le_succ_of_le h.size, fun k hk hL => by rw [heap_al_lt (Nat.lt_of_lt_of_le hk h.size)]; exact h.block k hk hL⟩
instance (priority := low) Ex.kp {W0 W W2 : World} {L : List Nat} [k : Kp1 W W2] [h : Ex W0 L W] : Ex W0 L W2 :=
  ⟨Nat.le_trans h.size k.out.size, fun j hj hL => by rw [k.out.block j (Nat.lt_of_lt_of_le hj h.size)]; exact h.block j hj hL⟩
instance (priority := low) Ex.tp {W0 W W2 : World} {g : Nat} {L : List Nat} [k : Tp1 W W2 g] [n : InL g L] [h : Ex W0 L W] : Ex W0 L W2 :=
  ⟨Nat.le_trans h.size k.gb.size, fun j hj hL => by
    rw [k.gb.block j (Nat.lt_of_lt_of_le hj h.size) (fun e => by injection e with e; subst e; exact hL n.out)]; exact h.block j hj hL⟩
instance Ex.st {W0 W : World} {L : List Nat} {q i : Nat} {x : Value} [n : InL q L] [h : Ex W0 L W] : Ex W0 L (W.setCell ⟨q, i, none⟩ x) :=
  ⟨by rw [World.size_setCell]; exact h.size, fun k hk hL => by
    simp only [World.setCell, Array.getElem?_modify]
    rw [if_neg (fun e => hL (by rw [← e]; exact n.out))]; exact h.block k hk hL⟩
instance (priority := low) Ex.st2 {W0 W : World} {L : List Nat} {q i : Nat} {x : Value} [n : Gg W0 q] [h : Ex W0 L W] : Ex W0 L (W.setCell ⟨q, i, none⟩ x) :=
  ⟨by rw [World.size_setCell]; exact h.size, fun k hk hL => by
    simp only [World.setCell, Array.getElem?_modify]
    rw [if_neg (fun e => by have := n.out; omega)]; exact h.block k hk hL⟩
instance (priority := low) Bx.ex {W0 W : World} {L : List Nat} {b : Nat} {t : TypeId} {l : List Value} [e : Ex1 W0 L W] [n : NoL b L] [h : Bx W0 b t l] : Bx W b t l := ⟨by
  rw [e.out.block b h.lt n.out]; exact h.out⟩
/-- A region that draws its order: what was there stays as it was, but for the blocks of L. -/
theorem region_cls {P : Program} {ops : Array Oper} {Q : Exit → Act → World → Prop} {id : Nat} {a : Act} {w : World} (hm : P.follows .mixedOrders = true) (L : List Nat)
    (h : Ex w L w.drew → wpAnyH P .any ops Q (Ex w L) ops.size (Array.replicate ops.size false) a w.drew) : (Code.region id ops true).wp P Q a w :=
  wp_region_held_drew (S := Ex w L) hm Ex.dr h
theorem Rd.soft {W : World} {v : Value} {l : List Nat} {q i : Nat} {x : Value} (h : Rd W v l) (hs : SoftB W q) : Rd (W.setCell ⟨q, i, none⟩ x) v l := by
  obtain ⟨a, cap, rfl, h1, h2, h3, h4⟩ := h
  refine ⟨a, cap, rfl, h1, h2, h3, fun h0 => ?_⟩
  obtain ⟨b, off, rfl, hcell⟩ := h4 h0
  refine ⟨b, off, rfl, fun j hj => ?_⟩
  rw [World.cell?_setCell_other _ _ _ _ (fun e => ?_)]
  · exact hcell j hj
  · have hc := hcell j hj
    injection e with e1 e2
    subst e1
    have := hs.no hc
    simp [isDigit32] at this
theorem Nn.soft {W : World} {v : Value} {n k : Nat} {q i : Nat} {x : Value} (h : Nn W v n k) (hs : SoftB W q) : Nn (W.setCell ⟨q, i, none⟩ x) v n k := ⟨h.1.soft hs, h.2⟩
theorem Rr.soft {W : World} {v : Value} {n k : Nat} {q i : Nat} {x : Value} (h : Rr W v n k) (hs : SoftB W q) : Rr (W.setCell ⟨q, i, none⟩ x) v n k := by
  obtain ⟨l, h1, h2⟩ := h
  exact ⟨l, h1.soft hs, h2⟩
def Za (W : World) (v : Value) (z : Int) (k : Nat) : Prop := ∃ g a l c, v = .agg #[.bool g, .slice a l c] ∧ Zz W g (.slice a l c) z k
def Ia (W : World) (v : Value) (z : Int) (k : Nat) : Prop := ∃ g a l c, v = .agg #[.bool g, .slice a l c] ∧ Zi W g (.slice a l c) z k
theorem Za.map {W W2 : World} {v : Value} {z : Int} {k : Nat} (h : Za W v z k) (f : ∀ g s, Zz W g s z k → Zz W2 g s z k) : Za W2 v z k := by
  obtain ⟨g, a, l, c, e, h⟩ := h; exact ⟨g, a, l, c, e, f _ _ h⟩
theorem Ia.map {W W2 : World} {v : Value} {z : Int} {k : Nat} (h : Ia W v z k) (f : ∀ g s, Zi W g s z k → Zi W2 g s z k) : Ia W2 v z k := by
  obtain ⟨g, a, l, c, e, h⟩ := h; exact ⟨g, a, l, c, e, f _ _ h⟩
/-- The slice v is the number n in normal form, of at most k digits. -/
class CN (W : World) (v : Value) (n : outParam Nat) (k : outParam Nat) : Prop where out : Nn W v n k
instance CN.al {W : World} {v : Value} {n : Nat} {k : Nat} {o : Obj} [h : CN W v n k] : CN (W.alloc o) v n k := ⟨h.out.keep (blw_one _ _)⟩
instance CN.dr {W : World} {v : Value} {n : Nat} {k : Nat} [h : CN W v n k] : CN W.drew v n k := ⟨h.out.keep (blw_drew (Below.refl _ _))⟩
instance CN.drN {W : World} {v : Value} {n : Nat} {k : Nat} {j : Nat} [h : CN W v n k] : CN (W.drewN j) v n k := ⟨h.out.keep (blw_drewN (Below.refl _ _) _)⟩
instance CN.kp {W W2 : World} {v : Value} {n : Nat} {k : Nat} [b : Kp1 W W2] [h : CN W v n k] : CN W2 v n k := ⟨h.out.keep (b.out)⟩
instance CN.tp {W W2 : World} {v : Value} {n : Nat} {k : Nat} {g : Nat} [b : Tp1 W W2 g] [h : CN W v n k] : CN W2 v n k := ⟨Nn.tp2 b.gb b.tp h.out⟩
instance CN.st {W : World} {v : Value} {n : Nat} {k : Nat} {qb ib : Nat} {xv : Value} [b : SoftB W qb] [h : CN W v n k] : CN (W.setCell ⟨qb, ib, none⟩ xv) v n k := ⟨h.out.soft b⟩
/-- The slice v reads as the number n, in at most k digits. -/
class CR (W : World) (v : Value) (n : outParam Nat) (k : outParam Nat) : Prop where out : Rr W v n k
instance CR.al {W : World} {v : Value} {n : Nat} {k : Nat} {o : Obj} [h : CR W v n k] : CR (W.alloc o) v n k := ⟨h.out.keep (blw_one _ _)⟩
instance CR.dr {W : World} {v : Value} {n : Nat} {k : Nat} [h : CR W v n k] : CR W.drew v n k := ⟨h.out.keep (blw_drew (Below.refl _ _))⟩
instance CR.drN {W : World} {v : Value} {n : Nat} {k : Nat} {j : Nat} [h : CR W v n k] : CR (W.drewN j) v n k := ⟨h.out.keep (blw_drewN (Below.refl _ _) _)⟩
instance CR.kp {W W2 : World} {v : Value} {n : Nat} {k : Nat} [b : Kp1 W W2] [h : CR W v n k] : CR W2 v n k := ⟨h.out.keep (b.out)⟩
instance CR.tp {W W2 : World} {v : Value} {n : Nat} {k : Nat} {g : Nat} [b : Tp1 W W2 g] [h : CR W v n k] : CR W2 v n k := ⟨Rr.tp2 b.gb b.tp h.out⟩
instance CR.st {W : World} {v : Value} {n : Nat} {k : Nat} {qb ib : Nat} {xv : Value} [b : SoftB W qb] [h : CR W v n k] : CR (W.setCell ⟨qb, ib, none⟩ xv) v n k := ⟨h.out.soft b⟩
/-- The struct v is the integer z in normal form. -/
class CZ (W : World) (v : Value) (z : outParam Int) (k : outParam Nat) : Prop where out : Za W v z k
instance CZ.al {W : World} {v : Value} {z : Int} {k : Nat} {o : Obj} [h : CZ W v z k] : CZ (W.alloc o) v z k := ⟨h.out.map fun _ _ h => h.keep (blw_one _ _)⟩
instance CZ.dr {W : World} {v : Value} {z : Int} {k : Nat} [h : CZ W v z k] : CZ W.drew v z k := ⟨h.out.map fun _ _ h => h.keep (blw_drew (Below.refl _ _))⟩
instance CZ.drN {W : World} {v : Value} {z : Int} {k : Nat} {j : Nat} [h : CZ W v z k] : CZ (W.drewN j) v z k := ⟨h.out.map fun _ _ h => h.keep (blw_drewN (Below.refl _ _) _)⟩
instance CZ.kp {W W2 : World} {v : Value} {z : Int} {k : Nat} [b : Kp1 W W2] [h : CZ W v z k] : CZ W2 v z k := ⟨h.out.map fun _ _ h => h.keep (b.out)⟩
instance CZ.tp {W W2 : World} {v : Value} {z : Int} {k : Nat} {g : Nat} [b : Tp1 W W2 g] [h : CZ W v z k] : CZ W2 v z k := ⟨h.out.map fun _ _ h => Zz.tp2 b.gb b.tp h⟩
instance CZ.st {W : World} {v : Value} {z : Int} {k : Nat} {qb ib : Nat} {xv : Value} [b : SoftB W qb] [h : CZ W v z k] : CZ (W.setCell ⟨qb, ib, none⟩ xv) v z k := ⟨h.out.map fun _ _ h => ⟨h.1, h.2.soft b⟩⟩
/-- The struct v reads as the integer z. -/
class CI (W : World) (v : Value) (z : outParam Int) (k : outParam Nat) : Prop where out : Ia W v z k
instance CI.al {W : World} {v : Value} {z : Int} {k : Nat} {o : Obj} [h : CI W v z k] : CI (W.alloc o) v z k := ⟨h.out.map fun _ _ h => h.keep (blw_one _ _)⟩
instance CI.dr {W : World} {v : Value} {z : Int} {k : Nat} [h : CI W v z k] : CI W.drew v z k := ⟨h.out.map fun _ _ h => h.keep (blw_drew (Below.refl _ _))⟩
instance CI.drN {W : World} {v : Value} {z : Int} {k : Nat} {j : Nat} [h : CI W v z k] : CI (W.drewN j) v z k := ⟨h.out.map fun _ _ h => h.keep (blw_drewN (Below.refl _ _) _)⟩
instance CI.kp {W W2 : World} {v : Value} {z : Int} {k : Nat} [b : Kp1 W W2] [h : CI W v z k] : CI W2 v z k := ⟨h.out.map fun _ _ h => h.keep (b.out)⟩
instance CI.tp {W W2 : World} {v : Value} {z : Int} {k : Nat} {g : Nat} [b : Tp1 W W2 g] [h : CI W v z k] : CI W2 v z k := ⟨h.out.map fun _ _ h => Zi.tp2 b.gb b.tp h⟩
instance CI.st {W : World} {v : Value} {z : Int} {k : Nat} {qb ib : Nat} {xv : Value} [b : SoftB W qb] [h : CI W v z k] : CI (W.setCell ⟨qb, ib, none⟩ xv) v z k := ⟨h.out.map fun _ _ ⟨n, h1, h2⟩ => ⟨n, h1.soft b, h2⟩⟩
instance (priority := low) CR.of {W : World} {v : Value} {n k : Nat} [h : CN W v n k] : CR W v n k := ⟨h.out.rr⟩
instance (priority := low) CI.of {W : World} {v : Value} {z : Int} {k : Nat} [h : CZ W v z k] : CI W v z k := ⟨by
  obtain ⟨g, a, l, c, e, h⟩ := h.out
  exact ⟨g, a, l, c, e, h.zi⟩⟩
theorem Zz.pos {w : World} {s : Value} {n k : Nat} (h : Nn w s n k) : Zz w false s n k := ⟨by simp, by simpa using h⟩
instance CZ.pos {W : World} {a : Option Addr} {l c n k : Nat} [h : CN W (.slice a l c) n k] : CZ W (.agg #[.bool false, .slice a l c]) (n : Int) k := ⟨⟨_, _, _, _, rfl, Zz.pos h.out⟩⟩
instance (priority := low) CI.sg {W : World} {g : Bool} {a : Option Addr} {l c n k : Nat} [h : CR W (.slice a l c) n k] : CI W (.agg #[.bool g, .slice a l c]) (sgn g n) k := ⟨⟨_, _, _, _, rfl, ⟨n, h.out, rfl⟩⟩⟩
instance CN.nil {W : World} : CN W (.slice none 0 0) 0 0 := ⟨Nn.nil W 0⟩
instance CZ.zero {W : World} : CZ W (.agg #[.bool false, .slice none 0 0]) 0 0 := ⟨⟨_, _, _, _, rfl, Zz.zero W 0⟩⟩
instance CN.one {W : World} {b : Nat} [h : Sz W b] : CN (W.alloc (.cells #[.int .u32 1] 106)) (.slice (some ⟨b, 0, none⟩) 1 1) 1 1 := ⟨by rw [← h.out]; exact Nn.lit1⟩
/-- The end of a walk: the struct that lies in the result's box is returned. -/
theorem ret_bx {P : Program} {fn : Func} {R : Ending → World → Prop} {a : Act} {W : World} {b : Nat} {p : Tmp} {ty t : TypeId} {d : TypeDesc} {l l' : List Value} [hb : Bx W b t l] (hr : fn.results = #[.cell p ty])
    (hu : P.underlying ty = some d) (hd : (match d with | .struct _ | .array _ _ => true | _ => false) = true) (hi : (P.info? ty).map (·.size) = some l.length)
    (hp : a.tmps.getD p undef = .pointer (some ⟨b, 0, none⟩)) (hdf : a.defers = []) (hl : l = l') (hR : R (.returned (.agg l'.toArray)) W) : bodyPost P fn R .ret a W := by
  subst hl
  refine ret_c hr hp (loadVar_at W b ty l d hu hd hi (fun j hj => ?_)) hdf hR
  rw [cell_bx, List.getElem?_eq_getElem hj]
end Go.Proofs.YtdlnoeegboapkaaGreatDoor
