/-
  The reference's Divide, Common and Root (package bspregionnum).
-/
import Derived.Test.YtlameeijogdckaaGreatNumDiv
import Derived.Test.YtlameeijogdckaaGreatSqrt
namespace Go.Proofs.YtlameeijogdckaaGreat
open Go.RowKit

/-- What Divide returns: quotient and remainder. -/
def RetQR (w : World) (q r k : Nat) (e : Ending) (w' : World) : Prop := ∃ a l c a2 l2 c2, e = .returned (.tuple #[.slice a l c, .slice a2 l2 c2]) ∧ Nn w' (.slice a l c) q k ∧ Nn w' (.slice a2 l2 c2) r k ∧ Below w.heap.size w w'
theorem RetQR.mk {w w' : World} {q r k : Nat} {v1 v2 : Value} (h1 : Nn w' v1 q k) (h2 : Nn w' v2 r k) (hb : Below w.heap.size w w') : RetQR w q r k (.returned (.tuple #[v1, v2])) w' := by
  obtain ⟨a, c, rfl, _⟩ := h1.shape
  obtain ⟨a2, c2, rfl, _⟩ := h2.shape
  exact ⟨_, _, _, _, _, _, rfl, h1, h2, hb⟩
set_option maxRecDepth 100000 in
set_option maxHeartbeats 2000000 in
theorem divideW {w : World} {u v : Value} {m n km kn : Nat} (hu : Nn w u m km) (hv : Nn w v n kn) (hn : n ≠ 0) (hk : km ≤ 200000) :
    Calls Tryz.prog 101 #[u, v] w (RetQR w (m / n) (m % n) (km + 2)) := by
  obtain ⟨a1, c1, rfl⟩ := hu.1.sl
  obtain ⟨a2, c2, rfl⟩ := hv.1.sl
  have hk1 := hu.2
  have HQL := Lib.hid (Nat.le_trans (len_le (Nat.div_le_self m n) hk1) (Nat.le_add_right km 2))
  have HRL := Lib.hid (Nat.le_trans (len_le (Nat.mod_le m n) hk1) (Nat.le_add_right km 2))
  by_cases hs : m < 18446744073709551616 ∧ n < 18446744073709551616
  · obtain ⟨hm1, hn1⟩ := hs
    have CW := Lib.hid (numWord2W hu)
    have CV := Lib.hid (fun (W : World) (h : Below w.heap.size w W) => numWord2W (hv.keep h))
    have HU1 := Lib.hid (uintV_lt hm1)
    have HU2 := Lib.hid (uintV_lt hn1)
    have e1 : (m : Int) / (n : Int) = ((m / n : Nat) : Int) := (Int.natCast_ediv _ _).symm
    have e2 : (m : Int) % (n : Int) = ((m % n : Nat) : Int) := (Int.natCast_emod _ _).symm
    have hq1 : m / n < 18446744073709551616 := Nat.lt_of_le_of_lt (Nat.div_le_self _ _) hm1
    have hr1 : m % n < 18446744073709551616 := Nat.lt_of_le_of_lt (Nat.mod_le _ _) hm1
    have HE1 := Lib.hid e1
    have HE2 := Lib.hid e2
    have HQ1 := Lib.hid hq1
    have HR1 := Lib.hid hr1
    clear e1 e2 hq1 hr1 hu hv
    go_enter Tryz.func101, Tryz.ntmps101
    go_wp2_with fail
    refine CW.out.mono ?_
    rintro e w1 ⟨rfl, j1, rfl⟩
    rw [HU1.out]
    go_wp2_with fail
    refine (CV.out _ (blw_drewN (Below.refl _ _) _)).mono ?_
    rintro e w2 ⟨rfl, j2, rfl⟩
    rw [HU2.out]
    have hn3 : (1 : Int) ≤ (n : Int) := by omega
    have hn4 : ((n : Int) == 0) = false := by rw [beq_eq_false_iff_ne]; omega
    go_wp2_with fail
    have HQX := Lib.hid (show IntKind.u64.wrap ((m : Int) / (n : Int)) = ((m / n : Nat) : Int) by
      rw [HE1.out, IntKind.wrap_u64]; exact Int.emod_eq_of_lt (Int.natCast_nonneg _) (by have := HQ1.out; omega))
    have HRX := Lib.hid (show IntKind.u64.wrap ((m : Int) % (n : Int)) = ((m % n : Nat) : Int) by
      rw [HE2.out, IntKind.wrap_u64]; exact Int.emod_eq_of_lt (Int.natCast_nonneg _) (by have := HR1.out; omega))
    have HTM := Lib.hid (show (m : Int).tmod (n : Int) = ((m % n : Nat) : Int) by rw [Int.tmod_eq_emod_of_nonneg (Int.natCast_nonneg _), HE2.out])
    go_region_held3 (fun _ => True) (trivial) (first
      | (go_at_call 118; (with_reducible refine (wordZ _ _ (m / n) HQX.out HQ1.out).mono ?_); rintro e w3 ⟨zq, rfl, hzq, bq⟩)
      | (go_at_call 118; (with_reducible refine (wordZ _ _ (m % n) HRX.out HR1.out).mono ?_); rintro e w4 ⟨zr, rfl, hzr, br⟩)
      | (go_at_call 118; (with_reducible refine (wordZ _ _ (m % n) HTM.out HR1.out).mono ?_); rintro e w4 ⟨zr, rfl, hzr, br⟩))
    go_wp2
    go_ret2
    have hb1 : Below w.heap.size w w3 := blw_trans (blw_drewN (Below.refl _ _) _) bq
    exact .mk (.of_own (hzq.keep br) HQL.out) (.of_own hzr HRL.out) (blw_trans hb1 br)
  · have hs : 18446744073709551616 ≤ m ∨ (m < 18446744073709551616 ∧ 18446744073709551616 ≤ n) := by omega
    have CC := Lib.hid (fun (W : World) (h : Below w.heap.size w W) => numCmpW (hu.keep h) (hv.keep h))
    have CW := Lib.hid (numWord2W hu)
    have CV := Lib.hid (fun (W : World) (h : Below w.heap.size w W) => numWord2W (hv.keep h))
    have HU := Lib.hid hu
    have HV := Lib.hid hv
    clear hu hv
    go_enter Tryz.func101, Tryz.ntmps101
    rcases hs with hs | ⟨hs1, hs2⟩
    · have HU1 := Lib.hid (uintV_ge hs)
      clear hs
      go_wp2_with fail
      refine CW.out.mono ?_
      rintro e w1 ⟨rfl, j1, rfl⟩
      rw [HU1.out]
      have B1 := Lib.hid (show Below w.heap.size w (w.drewN j1) from blw_drewN (Below.refl _ _) _)
      generalize w.drewN j1 = w1 at *
      go_wp2_with fail
      refine (CC.out w1 B1.out).mono ?_
      rintro e w2 ⟨rfl, b2⟩
      have B2 := Lib.hid (blw_trans B1.out b2)
      clear b2 B1 CC CW CV
      by_cases hlt : m < n
      · rw [cmpN_lt hlt]
        have HQ := Lib.hid (Nat.div_eq_of_lt hlt)
        have HR := Lib.hid (Nat.mod_eq_of_lt hlt)
        have HX := Lib.hid (HU.out.1.keep B2.out)
        clear hlt
        go_wp2_with (at_builtin; go_loud (refine app_u32 _ rfl (.tmp 37) (.tmp 38) 32 32 rfl Tryz.underlying32 Tryz.underlying32 w2.heap.size _ _ [] (nf m) rfl rfl (own_lit w2 [] dig_nil (by simp) _ rfl) (HX.out.keep (blw_one _ _)) (by simp; omega) (by simp) ?_); intro v1 w3 o1 g1 _)
        have B3 := own_grown (own_lit w2 [] dig_nil (by simp) _ rfl) (blw_one _ _) g1 (Nat.le_refl _)
        go_ret2
        refine .mk (by rw [HQ.out]; exact Nn.nil _ _) ?_ (blw_trans B2.out B3)
        rw [HR.out]
        exact .of_own o1 (by omega)
      · have hge : ¬ (cmpN m n < 0) := by unfold cmpN; rw [if_neg hlt]; split <;> omega
        generalize cmpN m n = cc at *
        have hp := nf_len_pos hn
        by_cases h1 : (nf n).length = 1
        · have hb1 : (((nf n).length : Int) == 1) = true := by rw [h1]; rfl
          have hnB : n < 4294967296 := by have := lt_of_nf_len (Nat.le_of_eq h1); omega
          have hn0 : 0 < n := Nat.pos_of_ne_zero hn
          have hl1 : (nf m).length ≤ 200000 := by omega
          obtain ⟨_, _, e2, hcb, hcbm, _, hrb⟩ := HV.out.1.keep B2.out
          injection e2 with e2 e4 e5
          subst e2 e5
          obtain ⟨bb, offb, rfl, hcb2⟩ := hrb (by omega)
          have cb := hcb2 0 (by omega)
          have hnn : (nf n).getD 0 0 = n := by rw [nf_getD]; simp; omega
          rw [hnn, Nat.add_zero] at cb
          obtain ⟨_, _, e2, hca, hcam, hda, hra⟩ := HU.out.1.keep B2.out
          injection e2 with e2 e6 e7
          subst e2 e7
          have HLN := Lib.hid h1
          clear h1 e4 e6 hcb2 hrb hnn HU HV hlt hn hp
          have hbl : 0 < (nf n).length := by rw [HLN.out]; omega
          generalize (nf n).length = ln at *
          have HVM := Lib.hid (val_nf m)
          generalize hla : nf m = la at *
          clear hla
          go_wp2_with (at_make; go_loud (refine make_u32 _ rfl (.tmp 44) (.tmp 44) 22 rfl Tryz.underlying22 _ _ la.length rfl rfl (by omega) (by omega) (by omega) ?_); intro w3 R0 B0)
          go_loopw [11, 12] (fun c i wr => ∃ (k r : Nat) (L : List Nat), k ≤ la.length ∧ i = .int .i64 ((k : Int) - 1) ∧ c = .int .u32 r ∧ r < n ∧ Row wr w2.heap.size w2.heap.size la.length L ∧ Hid (L.length = la.length) ∧ Below w2.heap.size w2 wr ∧
              Hid (∀ j, j < k → L.getD j 0 = 0) ∧ Hid (4294967296 ^ k * val (la.drop k) = val L * n + 4294967296 ^ k * r)) (fun _ i _ => (intOf i + 1).toNat)
          case atStart => exact ⟨la.length, 0, _, Nat.le_refl _, rfl, rfl, hn0, R0, by show _ = _; simp, B0, fun j _ => getD_replicate _ _, by show _ = _; simp [val_replicate, val_nil]⟩
          case round =>
            obtain ⟨k, r, L, hk, rfl, rfl, hr, hR, hL, hB, hz, hv⟩ := hrel
            have hRl := hR.lt
            have hRc := hR.cap
            have cbr := hB.cell (p := ⟨bb, offb, none⟩) (lt_of_cell cb)
            rw [cb] at cbr
            by_cases hk1 : 1 ≤ k
            · obtain ⟨j, rfl⟩ : ∃ j, k = j + 1 := ⟨k - 1, by omega⟩
              obtain ⟨ba, offa, rfl, cA⟩ := hra.at hB (k := j) (by omega)
              have hx := dig_get hda j
              have hst := fun x hx => @short_step la L n r x j (by omega) hL.out hx hn0 hr hR.dig hda hz.out hv.out
              have hst := hst _ rfl
              generalize la.getD j 0 = x at *
              have cR := hR.cell (j := j) (by rw [hL.out]; omega)
              have fR := hR.free j
              generalize L.getD j 0 = zz at *
              have b0 : (0 : Int) ≤ (j : Int) := by omega
              have b1 : (j : Int) < (la.length : Int) := by omega
              have HST := Lib.hid hst
              have CD := Lib.hid (fun (W : World) => div32W (w := W) (h := r) (l := x) (y := n) hr hx hnB)
              have hba := hra.below (by omega) _ _ rfl
              have hbb := lt_of_cell cb
              have n1 : (⟨w2.heap.size, j, none⟩ : Addr) ≠ ⟨ba, offa + j, none⟩ := fun e => by injection e with e; (try dsimp only at hba); omega
              have n2 : (⟨w2.heap.size, j, none⟩ : Addr) ≠ ⟨bb, offb, none⟩ := fun e => by injection e with e; (try dsimp only at hbb); omega
              have CA := Lib.hid cA
              have CB := Lib.hid cbr
              have CRU := Lib.hid (hasU cR)
              have FR := Lib.hid fR
              have CR := Lib.hid cR
              clear hst hra
              go_wp2_with fail
              go_region_held3 (fun w' => w'.cell? ⟨ba, offa + j, none⟩ = some (.int .u32 (x : Int)) ∧ w'.cell? ⟨bb, offb, none⟩ = some (.int .u32 (n : Int)) ∧ w'.cell? ⟨w2.heap.size, j, none⟩ = some (.int .u32 (cellI w' ⟨w2.heap.size, j, none⟩)) ∧ w'.frozen? ⟨w2.heap.size, j, none⟩ = false)
                (first | exact ⟨CA.out, CB.out, CRU.out, FR.out⟩ | exact ⟨setn CA.out n1, setn CB.out n2, setUs CR.out, setf FR.out⟩)
                (first | (go_at_call 179; refine (CD.out _).mono ?_; rintro e w' ⟨rfl, jd, rfl⟩))
              go_split_ands
              have HS := Lib.hid ((hR.set j HST.out.1).keep (Below.refl _ _))
              clear CA CB CRU FR CR n1 n2
              go_wp2_with fail
              go_roundw
              case rel =>
                obtain ⟨s1, s2, s3, s4, s5⟩ := HST.out
                exact ⟨j, (x + 4294967296 * r) % n, L.set j ((x + 4294967296 * r) / n), by omega, by go_num, rfl, s2, hR.set j s1, by show _ = _; rw [List.length_set]; exact hL.out, (blw_drewN hB _).setCell (p := ⟨w2.heap.size, j, none⟩) (Nat.le_refl _) _, s4, s5⟩
              case measure => simp [intOf]
            · obtain rfl : k = 0 := by omega
              have HST := Lib.hid (short_end hr hv.out)
              have hRow2 : Own wr w2.heap.size (.slice (some ⟨w2.heap.size, 0, none⟩) la.length la.length) L := by
                have := hR
                unfold Row at this
                rw [hL.out] at this
                exact this
              have HRW := Lib.hid hRow2
              clear hRow2 hra
              go_wp2_with fail
              refine (numTrim_own _ _ _ _ HRW.out).mono ?_
              rintro e wa ⟨z, rfl, hz, rfl⟩
              have HZ := Lib.hid hz
              clear hz
              have HO := Lib.hid (own_lit wr [r] (dig1 (by omega)) (by simp) #[.int .u32 (r : Int)] rfl)
              go_wp2_with fail
              refine (numTrim_own _ _ _ _ HO.out).mono ?_
              rintro e wb ⟨z2, rfl, hz2, rfl⟩
              go_wp2
              go_ret2
              have hz' := HZ.out
              rw [HST.out.1, HVM.out] at hz'
              have hvr : val [r] = m % n := by
                rw [show val [r] = r by simp [val_cons, val_nil], ← HVM.out]; exact HST.out.2
              rw [hvr] at hz2
              exact .mk (.of_own (hz'.keep (blw_one _ _)) HQL.out) (.of_own hz2 HRL.out) (blw_alloc (blw_trans B2.out hB) _)
        · have hb1 : (((nf n).length : Int) == 1) = false := by rw [beq_eq_false_iff_ne]; omega
          have CL := Lib.hid (numLong_any w2 _ _ m n (HU.out.1.keep B2.out) (HV.out.1.keep B2.out) hn (by omega) (by omega))
          go_wp2_with fail
          refine CL.out.mono ?_
          rintro e w3 ⟨z, r, rfl, hz, hr, b3⟩
          go_wp2
          go_ret2
          exact .mk (.of_own hz HQL.out) (.of_own hr HRL.out) (blw_trans B2.out b3)
    · have HU1 := Lib.hid (uintV_lt hs1)
      have HU2 := Lib.hid (uintV_ge hs2)
      clear hs1 hs2
      go_wp2_with fail
      refine CW.out.mono ?_
      rintro e w1 ⟨rfl, j1, rfl⟩
      rw [HU1.out]
      go_wp2_with fail
      refine (CV.out _ (blw_drewN (Below.refl _ _) _)).mono ?_
      rintro e w2 ⟨rfl, j2, rfl⟩
      rw [HU2.out]
      have B1 := Lib.hid (show Below w.heap.size w (w.drewN (j1 + j2)) from blw_drewN (Below.refl _ _) _)
      go_wp2_with fail
      generalize w.drewN (j1 + j2) = w1 at *
      go_wp2_with fail
      refine (CC.out w1 B1.out).mono ?_
      rintro e w2 ⟨rfl, b2⟩
      have B2 := Lib.hid (blw_trans B1.out b2)
      clear b2 B1 CC CW CV
      by_cases hlt : m < n
      · rw [cmpN_lt hlt]
        have HQ := Lib.hid (Nat.div_eq_of_lt hlt)
        have HR := Lib.hid (Nat.mod_eq_of_lt hlt)
        have HX := Lib.hid (HU.out.1.keep B2.out)
        clear hlt
        go_wp2_with (at_builtin; go_loud (refine app_u32 _ rfl (.tmp 37) (.tmp 38) 32 32 rfl Tryz.underlying32 Tryz.underlying32 w2.heap.size _ _ [] (nf m) rfl rfl (own_lit w2 [] dig_nil (by simp) _ rfl) (HX.out.keep (blw_one _ _)) (by simp; omega) (by simp) ?_); intro v1 w3 o1 g1 _)
        have B3 := own_grown (own_lit w2 [] dig_nil (by simp) _ rfl) (blw_one _ _) g1 (Nat.le_refl _)
        go_ret2
        refine .mk (by rw [HQ.out]; exact Nn.nil _ _) ?_ (blw_trans B2.out B3)
        rw [HR.out]
        exact .of_own o1 (by omega)
      · have hge : ¬ (cmpN m n < 0) := by unfold cmpN; rw [if_neg hlt]; split <;> omega
        generalize cmpN m n = cc at *
        have hp := nf_len_pos hn
        by_cases h1 : (nf n).length = 1
        · have hb1 : (((nf n).length : Int) == 1) = true := by rw [h1]; rfl
          have hnB : n < 4294967296 := by have := lt_of_nf_len (Nat.le_of_eq h1); omega
          have hn0 : 0 < n := Nat.pos_of_ne_zero hn
          have hl1 : (nf m).length ≤ 200000 := by omega
          obtain ⟨_, _, e2, hcb, hcbm, _, hrb⟩ := HV.out.1.keep B2.out
          injection e2 with e2 e4 e5
          subst e2 e5
          obtain ⟨bb, offb, rfl, hcb2⟩ := hrb (by omega)
          have cb := hcb2 0 (by omega)
          have hnn : (nf n).getD 0 0 = n := by rw [nf_getD]; simp; omega
          rw [hnn, Nat.add_zero] at cb
          obtain ⟨_, _, e2, hca, hcam, hda, hra⟩ := HU.out.1.keep B2.out
          injection e2 with e2 e6 e7
          subst e2 e7
          have HLN := Lib.hid h1
          clear h1 e4 e6 hcb2 hrb hnn HU HV hlt hn hp
          have hbl : 0 < (nf n).length := by rw [HLN.out]; omega
          generalize (nf n).length = ln at *
          have HVM := Lib.hid (val_nf m)
          generalize hla : nf m = la at *
          clear hla
          go_wp2_with (at_make; go_loud (refine make_u32 _ rfl (.tmp 44) (.tmp 44) 22 rfl Tryz.underlying22 _ _ la.length rfl rfl (by omega) (by omega) (by omega) ?_); intro w3 R0 B0)
          go_loopw [11, 12] (fun c i wr => ∃ (k r : Nat) (L : List Nat), k ≤ la.length ∧ i = .int .i64 ((k : Int) - 1) ∧ c = .int .u32 r ∧ r < n ∧ Row wr w2.heap.size w2.heap.size la.length L ∧ Hid (L.length = la.length) ∧ Below w2.heap.size w2 wr ∧
              Hid (∀ j, j < k → L.getD j 0 = 0) ∧ Hid (4294967296 ^ k * val (la.drop k) = val L * n + 4294967296 ^ k * r)) (fun _ i _ => (intOf i + 1).toNat)
          case atStart => exact ⟨la.length, 0, _, Nat.le_refl _, rfl, rfl, hn0, R0, by show _ = _; simp, B0, fun j _ => getD_replicate _ _, by show _ = _; simp [val_replicate, val_nil]⟩
          case round =>
            obtain ⟨k, r, L, hk, rfl, rfl, hr, hR, hL, hB, hz, hv⟩ := hrel
            have hRl := hR.lt
            have hRc := hR.cap
            have cbr := hB.cell (p := ⟨bb, offb, none⟩) (lt_of_cell cb)
            rw [cb] at cbr
            by_cases hk1 : 1 ≤ k
            · obtain ⟨j, rfl⟩ : ∃ j, k = j + 1 := ⟨k - 1, by omega⟩
              obtain ⟨ba, offa, rfl, cA⟩ := hra.at hB (k := j) (by omega)
              have hx := dig_get hda j
              have hst := fun x hx => @short_step la L n r x j (by omega) hL.out hx hn0 hr hR.dig hda hz.out hv.out
              have hst := hst _ rfl
              generalize la.getD j 0 = x at *
              have cR := hR.cell (j := j) (by rw [hL.out]; omega)
              have fR := hR.free j
              generalize L.getD j 0 = zz at *
              have b0 : (0 : Int) ≤ (j : Int) := by omega
              have b1 : (j : Int) < (la.length : Int) := by omega
              have HST := Lib.hid hst
              have CD := Lib.hid (fun (W : World) => div32W (w := W) (h := r) (l := x) (y := n) hr hx hnB)
              have hba := hra.below (by omega) _ _ rfl
              have hbb := lt_of_cell cb
              have n1 : (⟨w2.heap.size, j, none⟩ : Addr) ≠ ⟨ba, offa + j, none⟩ := fun e => by injection e with e; (try dsimp only at hba); omega
              have n2 : (⟨w2.heap.size, j, none⟩ : Addr) ≠ ⟨bb, offb, none⟩ := fun e => by injection e with e; (try dsimp only at hbb); omega
              have CA := Lib.hid cA
              have CB := Lib.hid cbr
              have CRU := Lib.hid (hasU cR)
              have FR := Lib.hid fR
              have CR := Lib.hid cR
              clear hst hra
              go_wp2_with fail
              go_region_held3 (fun w' => w'.cell? ⟨ba, offa + j, none⟩ = some (.int .u32 (x : Int)) ∧ w'.cell? ⟨bb, offb, none⟩ = some (.int .u32 (n : Int)) ∧ w'.cell? ⟨w2.heap.size, j, none⟩ = some (.int .u32 (cellI w' ⟨w2.heap.size, j, none⟩)) ∧ w'.frozen? ⟨w2.heap.size, j, none⟩ = false)
                (first | exact ⟨CA.out, CB.out, CRU.out, FR.out⟩ | exact ⟨setn CA.out n1, setn CB.out n2, setUs CR.out, setf FR.out⟩)
                (first | (go_at_call 179; refine (CD.out _).mono ?_; rintro e w' ⟨rfl, jd, rfl⟩))
              go_split_ands
              have HS := Lib.hid ((hR.set j HST.out.1).keep (Below.refl _ _))
              clear CA CB CRU FR CR n1 n2
              go_wp2_with fail
              go_roundw
              case rel =>
                obtain ⟨s1, s2, s3, s4, s5⟩ := HST.out
                exact ⟨j, (x + 4294967296 * r) % n, L.set j ((x + 4294967296 * r) / n), by omega, by go_num, rfl, s2, hR.set j s1, by show _ = _; rw [List.length_set]; exact hL.out, (blw_drewN hB _).setCell (p := ⟨w2.heap.size, j, none⟩) (Nat.le_refl _) _, s4, s5⟩
              case measure => simp [intOf]
            · obtain rfl : k = 0 := by omega
              have HST := Lib.hid (short_end hr hv.out)
              have hRow2 : Own wr w2.heap.size (.slice (some ⟨w2.heap.size, 0, none⟩) la.length la.length) L := by
                have := hR
                unfold Row at this
                rw [hL.out] at this
                exact this
              have HRW := Lib.hid hRow2
              clear hRow2 hra
              go_wp2_with fail
              refine (numTrim_own _ _ _ _ HRW.out).mono ?_
              rintro e wa ⟨z, rfl, hz, rfl⟩
              have HZ := Lib.hid hz
              clear hz
              have HO := Lib.hid (own_lit wr [r] (dig1 (by omega)) (by simp) #[.int .u32 (r : Int)] rfl)
              go_wp2_with fail
              refine (numTrim_own _ _ _ _ HO.out).mono ?_
              rintro e wb ⟨z2, rfl, hz2, rfl⟩
              go_wp2
              go_ret2
              have hz' := HZ.out
              rw [HST.out.1, HVM.out] at hz'
              have hvr : val [r] = m % n := by
                rw [show val [r] = r by simp [val_cons, val_nil], ← HVM.out]; exact HST.out.2
              rw [hvr] at hz2
              exact .mk (.of_own (hz'.keep (blw_one _ _)) HQL.out) (.of_own hz2 HRL.out) (blw_alloc (blw_trans B2.out hB) _)
        · have hb1 : (((nf n).length : Int) == 1) = false := by rw [beq_eq_false_iff_ne]; omega
          have CL := Lib.hid (numLong_any w2 _ _ m n (HU.out.1.keep B2.out) (HV.out.1.keep B2.out) hn (by omega) (by omega))
          go_wp2_with fail
          refine CL.out.mono ?_
          rintro e w3 ⟨z, r, rfl, hz, hr, b3⟩
          go_wp2
          go_ret2
          exact .mk (.of_own hz HQL.out) (.of_own hr HRL.out) (blw_trans B2.out b3)
end Go.Proofs.YtlameeijogdckaaGreat
