import Derived.Test.YtpnpnlmlamfpmaaGreatDoorS11
import Derived.Test.YtpnpnlmlamfpmaaGreatDoorS12
import Derived.Deep.AppendLies
namespace Go.Proofs.YtpnpnlmlamfpmaaGreatDoor
open Go.RowKit
set_option maxRecDepth 100000
section
set_option maxHeartbeats 40000000
set_option synthInstance.maxHeartbeats 1000000
set_option synthInstance.maxSize 100000
def Zw (w : World) (q r k : Nat) (e : Ending) (w' : World) : Prop := ∃ a l c a2 l2 c2, e = .returned (.tuple #[.slice a l c, .slice a2 l2 c2]) ∧ Nn w' (.slice a l c) q k ∧ Nn w' (.slice a2 l2 c2) r k ∧ Below w.heap.size w w'
theorem Zw.mk {w w' : World} {q r k : Nat} {v1 v2 : Value} (h1 : Nn w' v1 q k) (h2 : Nn w' v2 r k) (hb : Below w.heap.size w w') : Zw w q r k (.returned (.tuple #[v1, v2])) w' := by
 obtain ⟨a, c, rfl, _⟩ := h1.shape; obtain ⟨a2, c2, rfl, _⟩ := h2.shape; exact ⟨_, _, _, _, _, _, rfl, h1, h2, hb⟩
theorem O2 {w : World} {u v : Value} {m n km kn : Nat} (hu : Nn w u m km) (hv : Nn w v n kn) (hn : n ≠ 0) (hk : km ≤ 200000) :
  Calls Tryz.prog 106 #[u, v] w (Zw w (m / n) (m % n) (km + 2)) := by
 obtain ⟨a1, c1, rfl⟩ := hu.1.sl; obtain ⟨a2, c2, rfl⟩ := hv.1.sl
 have hk1 := hu.2
 have HQL := Lib.hid (Nat.le_trans (E5 (Nat.div_le_self m n) hk1) (Nat.le_add_right km 2)); have HRL := Lib.hid (Nat.le_trans (E5 (Nat.mod_le m n) hk1) (Nat.le_add_right km 2))
 by_cases hs : m < 18446744073709551616 ∧ n < 18446744073709551616
 ·obtain ⟨hm1, hn1⟩ := hs; have CW := Lib.hid (Jd hu); have CV := Lib.hid (fun (W : World) (h : Below w.heap.size w W) => Jd (hv.keep h)); have HU1 := Lib.hid (Cv hm1); have HU2 := Lib.hid (Cv hn1)
  have e1 : (m : Int) / (n : Int) = ((m / n : Nat) : Int) := (Int.natCast_ediv _ _).symm
  have e2 : (m : Int) % (n : Int) = ((m % n : Nat) : Int) := (Int.natCast_emod _ _).symm
  have hq1 : m / n < 18446744073709551616 := Nat.lt_of_le_of_lt (Nat.div_le_self _ _) hm1
  have hr1 : m % n < 18446744073709551616 := Nat.lt_of_le_of_lt (Nat.mod_le _ _) hm1
  have HE1 := Lib.hid e1; have HE2 := Lib.hid e2; have HQ1 := Lib.hid hq1; have HR1 := Lib.hid hr1; clear e1 e2 hq1 hr1 hu hv; go_enter Tryz.func106, Tryz.ntmps106; go_wp2_with fail
  refine CW.out.mono ?_
  rintro e w1 ⟨rfl, j1, rfl⟩
  rw [HU1.out]; go_wp2_with fail
  refine (CV.out _ (Be (Below.refl _ _) _)).mono ?_
  rintro e w2 ⟨rfl, j2, rfl⟩
  rw [HU2.out]; have hn3 : (1 : Int) ≤ (n : Int) := (by omega)
  have hn4 : ((n : Int) == 0) = false := by rw [beq_eq_false_iff_ne]; omega
  go_wp2_with fail
  have HQX := Lib.hid (show IntKind.u64.wrap ((m : Int) / (n : Int)) = ((m / n : Nat) : Int) by
   rw [HE1.out, IntKind.wrap_u64]; exact Int.emod_eq_of_lt (Int.natCast_nonneg _) (by have := HQ1.out; omega))
  have HRX := Lib.hid (show IntKind.u64.wrap ((m : Int) % (n : Int)) = ((m % n : Nat) : Int) by
   rw [HE2.out, IntKind.wrap_u64]; exact Int.emod_eq_of_lt (Int.natCast_nonneg _) (by have := HR1.out; omega))
  have HTM := Lib.hid (show (m : Int).tmod (n : Int) = ((m % n : Nat) : Int) by rw [Int.tmod_eq_emod_of_nonneg (Int.natCast_nonneg _), HE2.out])
  go_region_held3 (fun _ => True) (trivial) (first
   | (go_at_call 100; (with_reducible refine (Hv _ _ (m / n) HQX.out HQ1.out).mono ?_); rintro e w3 ⟨zq, rfl, hzq, bq⟩)
   | (go_at_call 100; (with_reducible refine (Hv _ _ (m % n) HRX.out HR1.out).mono ?_); rintro e w4 ⟨zr, rfl, hzr, br⟩)
   | (go_at_call 100; (with_reducible refine (Hv _ _ (m % n) HTM.out HR1.out).mono ?_); rintro e w4 ⟨zr, rfl, hzr, br⟩))
  go_wp2; go_ret2
  have hb1 : Below w.heap.size w w3 := Ar (Be (Below.refl _ _) _) bq
  exact .mk (.of_own (hzq.keep br) HQL.out) (.of_own hzr HRL.out) (Ar hb1 br)
 ·have hs : 18446744073709551616 ≤ m ∨ (m < 18446744073709551616 ∧ 18446744073709551616 ≤ n) := by omega
  have CC := Lib.hid (fun (W : World) (h : Below w.heap.size w W) => Ww (hu.keep h) (hv.keep h)); have CW := Lib.hid (Jd hu); have CV := Lib.hid (fun (W : World) (h : Below w.heap.size w W) => Jd (hv.keep h)); have HU := Lib.hid hu; have HV := Lib.hid hv; clear hu hv; go_enter Tryz.func106, Tryz.ntmps106
  rcases hs with hs | ⟨hs1, hs2⟩
  ·have HU1 := Lib.hid (Hu hs); clear hs; go_wp2_with fail
   refine CW.out.mono ?_
   rintro e w1 ⟨rfl, j1, rfl⟩
   rw [HU1.out]; have B1 := Lib.hid (show Below w.heap.size w (w.drewN j1) from Be (Below.refl _ _) _)
   generalize w.drewN j1 = w1 at *
   go_wp2_with fail
   refine (CC.out w1 B1.out).mono ?_
   rintro e w2 ⟨rfl, b2⟩
   have B2 := Lib.hid (Ar B1.out b2); clear b2 B1 CC CW CV
   by_cases hlt : m < n
   ·rw [Fl hlt]; have HQ := Lib.hid (Nat.div_eq_of_lt hlt); have HR := Lib.hid (Nat.mod_eq_of_lt hlt); have HX := Lib.hid (HU.out.1.keep B2.out); clear hlt
    go_wp2_with (at_builtin; go_loud (refine Gx _ rfl (.tmp 37) (.tmp 38) 26 26 rfl Tryz.underlying26 Tryz.underlying26 w2.heap.size _ _ [] (nf m) rfl rfl (Ca w2 [] Bv (by simp) _ rfl) (HX.out.keep (Bh _ _)) (by simp; omega) (by simp) ?_); intro v1 w3 o1 g1 _)
    have B3 := Gh (Ca w2 [] Bv (by simp) _ rfl) (Bh _ _) g1 (Nat.le_refl _)
    go_ret2
    refine .mk (by rw [HQ.out]; exact Nn.nil _ _) ?_ (Ar B2.out B3)
    rw [HR.out]; exact .of_own o1 (by omega)
   ·have hge : ¬ (Av m n < 0) := by unfold Av; rw [if_neg hlt]; split <;> omega
    generalize Av m n = cc at *
    have hp := Bw hn
    by_cases h1 : (nf n).length = 1
    ·have hb1 : (((nf n).length : Int) == 1) = true := by rw [h1]; rfl
     have hnB : n < 4294967296 := by have := Eh (Nat.le_of_eq h1); omega
     have hn0 : 0 < n := Nat.pos_of_ne_zero hn
     have hl1 : (nf m).length ≤ 200000 := (by omega); obtain ⟨_, _, e2, hcb, hcbm, _, hrb⟩ := HV.out.1.keep B2.out
     injection e2 with e2 e4 e5
     subst e2 e5
     obtain ⟨bb, offb, rfl, hcb2⟩ := hrb (by omega)
     have cb := hcb2 0 (by omega)
     have hnn : (nf n).getD 0 0 = n := by rw [Kn]; simp; omega
     rw [hnn, Nat.add_zero] at cb; obtain ⟨_, _, e2, hca, hcam, hda, hra⟩ := HU.out.1.keep B2.out
     injection e2 with e2 e6 e7
     subst e2 e7
     have HLN := Lib.hid h1; clear h1 e4 e6 hcb2 hrb hnn HU HV hlt hn hp
     have hbl : 0 < (nf n).length := by rw [HLN.out]; omega
     generalize (nf n).length = ln at *
     have HVM := Lib.hid (Ah m)
     generalize hla : nf m = la at *
     clear hla
     go_wp2_with (at_make; go_loud (refine Dg _ rfl (.tmp 44) (.tmp 44) 25 rfl Tryz.underlying25 _ _ la.length rfl rfl (by omega) (by omega) (by omega) ?_); intro w3 R0 B0)
     go_loopw [11, 12] (fun c i wr => ∃ (k r : Nat) (L : List Nat), k ≤ la.length ∧ i = .int .i64 ((k : Int) - 1) ∧ c = .int .u32 r ∧ r < n ∧ Row wr w2.heap.size w2.heap.size la.length L ∧ Hid (L.length = la.length) ∧ Below w2.heap.size w2 wr ∧
       Hid (∀ j, j < k → L.getD j 0 = 0) ∧ Hid (4294967296 ^ k * val (la.drop k) = val L * n + 4294967296 ^ k * r)) (fun _ i _ => (intOf i + 1).toNat)
     case atStart => exact ⟨la.length, 0, _, Nat.le_refl _, rfl, rfl, hn0, R0, by show _ = _; simp, B0, fun j _ => C3 _ _, by show _ = _; simp [Dc, Ay]⟩
     case round =>
      obtain ⟨k, r, L, hk, rfl, rfl, hr, hR, hL, hB, hz, hv⟩ := hrel
      have hRl := hR.lt
      have hRc := hR.cap
      have cbr := hB.cell (p := ⟨bb, offb, none⟩) (El cb)
      rw [cb] at cbr
      by_cases hk1 : 1 ≤ k
      ·obtain ⟨j, rfl⟩ : ∃ j, k = j + 1 := ⟨k - 1, by omega⟩
       obtain ⟨ba, offa, rfl, cA⟩ := hra.at hB (k := j) (by omega)
       have hx := An hda j
       have hst := fun x hx => @Nt la L n r x j (by omega) hL.out hx hn0 hr hR.dig hda hz.out hv.out
       have hst := hst _ rfl
       generalize la.getD j 0 = x at *
       have cR := hR.cell (j := j) (by rw [hL.out]; omega)
       have fR := hR.free j
       generalize L.getD j 0 = zz at *
       have b0 : (0 : Int) ≤ (j : Int) := (by omega); have b1 : (j : Int) < (la.length : Int) := (by omega); have HST := Lib.hid hst; have CD := Lib.hid (fun (W : World) => Yi (w := W) (h := r) (l := x) (y := n) hr hx hnB)
       have hba := hra.below (by omega) _ _ rfl
       have hbb := El cb
       have n1 : (⟨w2.heap.size, j, none⟩ : Addr) ≠ ⟨ba, offa + j, none⟩ := fun e => by injection e with e; (try dsimp only at hba); omega
       have n2 : (⟨w2.heap.size, j, none⟩ : Addr) ≠ ⟨bb, offb, none⟩ := fun e => by injection e with e; (try dsimp only at hbb); omega
       have CA := Lib.hid cA; have CB := Lib.hid cbr; have CRU := Lib.hid (Qg cR); have FR := Lib.hid fR; have CR := Lib.hid cR; clear hst hra; go_wp2_with fail
       go_region_held3 (fun w' => w'.cell? ⟨ba, offa + j, none⟩ = some (.int .u32 (x : Int)) ∧ w'.cell? ⟨bb, offb, none⟩ = some (.int .u32 (n : Int)) ∧ w'.cell? ⟨w2.heap.size, j, none⟩ = some (.int .u32 (Ks w' ⟨w2.heap.size, j, none⟩)) ∧ w'.frozen? ⟨w2.heap.size, j, none⟩ = false)
        (first | exact ⟨CA.out, CB.out, CRU.out, FR.out⟩ | exact ⟨setn CA.out n1, setn CB.out n2, S9 CR.out, setf FR.out⟩)
        (first | (go_at_call 148; refine (CD.out _).mono ?_; rintro e w' ⟨rfl, jd, rfl⟩))
       go_split_ands
       have HS := Lib.hid ((hR.set j HST.out.1).keep (Below.refl _ _)); clear CA CB CRU FR CR n1 n2; go_wp2_with fail
       go_roundw
       case rel =>
        obtain ⟨s1, s2, s3, s4, s5⟩ := HST.out
        exact ⟨j, (x + 4294967296 * r) % n, L.set j ((x + 4294967296 * r) / n), by omega, by go_num, rfl, s2, hR.set j s1, by show _ = _; rw [List.length_set]; exact hL.out, (Be hB _).setCell (p := ⟨w2.heap.size, j, none⟩) (Nat.le_refl _) _, s4, s5⟩
       case measure => simp [intOf]
      ·obtain rfl : k = 0 := by omega
       have HST := Lib.hid (R5 hr hv.out)
       have hRow2 : Own wr w2.heap.size (.slice (some ⟨w2.heap.size, 0, none⟩) la.length la.length) L := by
        have := hR
        unfold Row at this; rw [hL.out] at this; exact this
       have HRW := Lib.hid hRow2; clear hRow2 hra; go_wp2_with fail
       refine (Eg _ _ _ _ HRW.out).mono ?_
       rintro e wa ⟨z, rfl, hz, rfl⟩
       have HZ := Lib.hid hz; clear hz; have HO := Lib.hid (Ca wr [r] (Ox (by omega)) (by simp) #[.int .u32 (r : Int)] rfl); go_wp2_with fail
       refine (Eg _ _ _ _ HO.out).mono ?_
       rintro e wb ⟨z2, rfl, hz2, rfl⟩
       go_wp2; go_ret2
       have hz' := HZ.out
       rw [HST.out.1, HVM.out] at hz'
       have hvr : val [r] = m % n := by
        rw [show val [r] = r by simp [Bp, Ay], ← HVM.out]; exact HST.out.2
       rw [hvr] at hz2; exact .mk (.of_own (hz'.keep (Bh _ _)) HQL.out) (.of_own hz2 HRL.out) (J3 (Ar B2.out hB) _)
    ·have hb1 : (((nf n).length : Int) == 1) = false := by rw [beq_eq_false_iff_ne]; omega
     have CL := Lib.hid (Xn w2 _ _ m n (HU.out.1.keep B2.out) (HV.out.1.keep B2.out) hn (by omega) (by omega)); go_wp2_with fail
     refine CL.out.mono ?_
     rintro e w3 ⟨z, r, rfl, hz, hr, b3⟩
     go_wp2; go_ret2; exact .mk (.of_own hz HQL.out) (.of_own hr HRL.out) (Ar B2.out b3)
  ·have HU1 := Lib.hid (Cv hs1); have HU2 := Lib.hid (Hu hs2); clear hs1 hs2; go_wp2_with fail
   refine CW.out.mono ?_
   rintro e w1 ⟨rfl, j1, rfl⟩
   rw [HU1.out]; go_wp2_with fail
   refine (CV.out _ (Be (Below.refl _ _) _)).mono ?_
   rintro e w2 ⟨rfl, j2, rfl⟩
   rw [HU2.out]; have B1 := Lib.hid (show Below w.heap.size w (w.drewN (j1 + j2)) from Be (Below.refl _ _) _); go_wp2_with fail
   generalize w.drewN (j1 + j2) = w1 at *
   go_wp2_with fail
   refine (CC.out w1 B1.out).mono ?_
   rintro e w2 ⟨rfl, b2⟩
   have B2 := Lib.hid (Ar B1.out b2); clear b2 B1 CC CW CV
   by_cases hlt : m < n
   ·rw [Fl hlt]; have HQ := Lib.hid (Nat.div_eq_of_lt hlt); have HR := Lib.hid (Nat.mod_eq_of_lt hlt); have HX := Lib.hid (HU.out.1.keep B2.out); clear hlt
    go_wp2_with (at_builtin; go_loud (refine Gx _ rfl (.tmp 37) (.tmp 38) 26 26 rfl Tryz.underlying26 Tryz.underlying26 w2.heap.size _ _ [] (nf m) rfl rfl (Ca w2 [] Bv (by simp) _ rfl) (HX.out.keep (Bh _ _)) (by simp; omega) (by simp) ?_); intro v1 w3 o1 g1 _)
    have B3 := Gh (Ca w2 [] Bv (by simp) _ rfl) (Bh _ _) g1 (Nat.le_refl _)
    go_ret2
    refine .mk (by rw [HQ.out]; exact Nn.nil _ _) ?_ (Ar B2.out B3)
    rw [HR.out]; exact .of_own o1 (by omega)
   ·have hge : ¬ (Av m n < 0) := by unfold Av; rw [if_neg hlt]; split <;> omega
    generalize Av m n = cc at *
    have hp := Bw hn
    by_cases h1 : (nf n).length = 1
    ·have hb1 : (((nf n).length : Int) == 1) = true := by rw [h1]; rfl
     have hnB : n < 4294967296 := by have := Eh (Nat.le_of_eq h1); omega
     have hn0 : 0 < n := Nat.pos_of_ne_zero hn
     have hl1 : (nf m).length ≤ 200000 := (by omega); obtain ⟨_, _, e2, hcb, hcbm, _, hrb⟩ := HV.out.1.keep B2.out
     injection e2 with e2 e4 e5
     subst e2 e5
     obtain ⟨bb, offb, rfl, hcb2⟩ := hrb (by omega)
     have cb := hcb2 0 (by omega)
     have hnn : (nf n).getD 0 0 = n := by rw [Kn]; simp; omega
     rw [hnn, Nat.add_zero] at cb; obtain ⟨_, _, e2, hca, hcam, hda, hra⟩ := HU.out.1.keep B2.out
     injection e2 with e2 e6 e7
     subst e2 e7
     have HLN := Lib.hid h1; clear h1 e4 e6 hcb2 hrb hnn HU HV hlt hn hp
     have hbl : 0 < (nf n).length := by rw [HLN.out]; omega
     generalize (nf n).length = ln at *
     have HVM := Lib.hid (Ah m)
     generalize hla : nf m = la at *
     clear hla
     go_wp2_with (at_make; go_loud (refine Dg _ rfl (.tmp 44) (.tmp 44) 25 rfl Tryz.underlying25 _ _ la.length rfl rfl (by omega) (by omega) (by omega) ?_); intro w3 R0 B0)
     go_loopw [11, 12] (fun c i wr => ∃ (k r : Nat) (L : List Nat), k ≤ la.length ∧ i = .int .i64 ((k : Int) - 1) ∧ c = .int .u32 r ∧ r < n ∧ Row wr w2.heap.size w2.heap.size la.length L ∧ Hid (L.length = la.length) ∧ Below w2.heap.size w2 wr ∧
       Hid (∀ j, j < k → L.getD j 0 = 0) ∧ Hid (4294967296 ^ k * val (la.drop k) = val L * n + 4294967296 ^ k * r)) (fun _ i _ => (intOf i + 1).toNat)
     case atStart => exact ⟨la.length, 0, _, Nat.le_refl _, rfl, rfl, hn0, R0, by show _ = _; simp, B0, fun j _ => C3 _ _, by show _ = _; simp [Dc, Ay]⟩
     case round =>
      obtain ⟨k, r, L, hk, rfl, rfl, hr, hR, hL, hB, hz, hv⟩ := hrel
      have hRl := hR.lt
      have hRc := hR.cap
      have cbr := hB.cell (p := ⟨bb, offb, none⟩) (El cb)
      rw [cb] at cbr
      by_cases hk1 : 1 ≤ k
      ·obtain ⟨j, rfl⟩ : ∃ j, k = j + 1 := ⟨k - 1, by omega⟩
       obtain ⟨ba, offa, rfl, cA⟩ := hra.at hB (k := j) (by omega)
       have hx := An hda j
       have hst := fun x hx => @Nt la L n r x j (by omega) hL.out hx hn0 hr hR.dig hda hz.out hv.out
       have hst := hst _ rfl
       generalize la.getD j 0 = x at *
       have cR := hR.cell (j := j) (by rw [hL.out]; omega)
       have fR := hR.free j
       generalize L.getD j 0 = zz at *
       have b0 : (0 : Int) ≤ (j : Int) := (by omega); have b1 : (j : Int) < (la.length : Int) := (by omega); have HST := Lib.hid hst; have CD := Lib.hid (fun (W : World) => Yi (w := W) (h := r) (l := x) (y := n) hr hx hnB)
       have hba := hra.below (by omega) _ _ rfl
       have hbb := El cb
       have n1 : (⟨w2.heap.size, j, none⟩ : Addr) ≠ ⟨ba, offa + j, none⟩ := fun e => by injection e with e; (try dsimp only at hba); omega
       have n2 : (⟨w2.heap.size, j, none⟩ : Addr) ≠ ⟨bb, offb, none⟩ := fun e => by injection e with e; (try dsimp only at hbb); omega
       have CA := Lib.hid cA; have CB := Lib.hid cbr; have CRU := Lib.hid (Qg cR); have FR := Lib.hid fR; have CR := Lib.hid cR; clear hst hra; go_wp2_with fail
       go_region_held3 (fun w' => w'.cell? ⟨ba, offa + j, none⟩ = some (.int .u32 (x : Int)) ∧ w'.cell? ⟨bb, offb, none⟩ = some (.int .u32 (n : Int)) ∧ w'.cell? ⟨w2.heap.size, j, none⟩ = some (.int .u32 (Ks w' ⟨w2.heap.size, j, none⟩)) ∧ w'.frozen? ⟨w2.heap.size, j, none⟩ = false)
        (first | exact ⟨CA.out, CB.out, CRU.out, FR.out⟩ | exact ⟨setn CA.out n1, setn CB.out n2, S9 CR.out, setf FR.out⟩)
        (first | (go_at_call 148; refine (CD.out _).mono ?_; rintro e w' ⟨rfl, jd, rfl⟩))
       go_split_ands
       have HS := Lib.hid ((hR.set j HST.out.1).keep (Below.refl _ _)); clear CA CB CRU FR CR n1 n2; go_wp2_with fail
       go_roundw
       case rel =>
        obtain ⟨s1, s2, s3, s4, s5⟩ := HST.out
        exact ⟨j, (x + 4294967296 * r) % n, L.set j ((x + 4294967296 * r) / n), by omega, by go_num, rfl, s2, hR.set j s1, by show _ = _; rw [List.length_set]; exact hL.out, (Be hB _).setCell (p := ⟨w2.heap.size, j, none⟩) (Nat.le_refl _) _, s4, s5⟩
       case measure => simp [intOf]
      ·obtain rfl : k = 0 := by omega
       have HST := Lib.hid (R5 hr hv.out)
       have hRow2 : Own wr w2.heap.size (.slice (some ⟨w2.heap.size, 0, none⟩) la.length la.length) L := by
        have := hR
        unfold Row at this; rw [hL.out] at this; exact this
       have HRW := Lib.hid hRow2; clear hRow2 hra; go_wp2_with fail
       refine (Eg _ _ _ _ HRW.out).mono ?_
       rintro e wa ⟨z, rfl, hz, rfl⟩
       have HZ := Lib.hid hz; clear hz; have HO := Lib.hid (Ca wr [r] (Ox (by omega)) (by simp) #[.int .u32 (r : Int)] rfl); go_wp2_with fail
       refine (Eg _ _ _ _ HO.out).mono ?_
       rintro e wb ⟨z2, rfl, hz2, rfl⟩
       go_wp2; go_ret2
       have hz' := HZ.out
       rw [HST.out.1, HVM.out] at hz'
       have hvr : val [r] = m % n := by
        rw [show val [r] = r by simp [Bp, Ay], ← HVM.out]; exact HST.out.2
       rw [hvr] at hz2; exact .mk (.of_own (hz'.keep (Bh _ _)) HQL.out) (.of_own hz2 HRL.out) (J3 (Ar B2.out hB) _)
    ·have hb1 : (((nf n).length : Int) == 1) = false := by rw [beq_eq_false_iff_ne]; omega
     have CL := Lib.hid (Xn w2 _ _ m n (HU.out.1.keep B2.out) (HV.out.1.keep B2.out) hn (by omega) (by omega)); go_wp2_with fail
     refine CL.out.mono ?_
     rintro e w3 ⟨z, r, rfl, hz, hr, b3⟩
     go_wp2; go_ret2; exact .mk (.of_own hz HQL.out) (.of_own hr HRL.out) (Ar B2.out b3)
end
section
variable {W W2 w : World}
theorem Qef {P : Program} {f : FuncId} {args : Array Value} {v : Value} {K : Ending → World → Prop} (h : Calls P f args w (fun e w' => e = .returned v ∧ w = w'))
  (hK : K (.returned v) w) : Calls P f args w K := by
 refine h.mono ?_
 rintro e w' ⟨rfl, rfl⟩
 exact hK
variable {g : Nat}
theorem Qaj {o : Obj} (h : w.grownBy W (some g)) : w.grownBy (W.alloc o) (some g) := Q7 h (Bh _ _)
theorem Qh2 (h : w.grownBy W (some g)) : w.grownBy W.drew (some g) := Q7 h (D0 (Below.refl _ _))
theorem Qiz (hb : Below W.heap.size W W2) (h : w.grownBy W (some g)) : w.grownBy W2 (some g) := Q7 h hb
theorem Ql5 (hg : W.grownBy W2 (some g)) (h : w.grownBy W (some g)) : w.grownBy W2 (some g) := Qco h hg
theorem Qjn {p : Addr} {x : Value} (hp : w.heap.size ≤ p.block) (h : w.grownBy W (some g)) : w.grownBy (W.setCell p x) (some g) :=
 ⟨h.os, h.tape, h.output, by simpa using h.size, fun i hi hne => by rw [Below.heap_setCell _ _ _ _ (by omega)]; exact h.block i hi hne⟩
end
section
class Kp1 (W : outParam World) (W2 : World) : Prop where out : Below W.heap.size W W2
class Tp1 (W : outParam World) (W2 : World) (g : outParam Nat) : Prop where
 gb : W.grownBy W2 (some g)
 tp : Bo W g
class Sz (W : World) (b : outParam Nat) : Prop where out : W.heap.size = b
variable {W W0 W2 w : World}
instance (priority := low) Sz.base : Sz W W.heap.size := ⟨rfl⟩
variable {a b c g i ib j k n q qb : Nat} {o : Obj}
instance Sz.al [h : Sz W b] : Sz (W.alloc o) (b + 1) := ⟨by rw [World.size_alloc, h.out]⟩
instance Sz.dr [h : Sz W b] : Sz W.drew b := ⟨h.out⟩
class Ndg (v : Value) : Prop where out : Am v = false
instance {b : Bool} : Ndg (.bool b) := ⟨rfl⟩
instance {a : Option Addr} {l : Nat} : Ndg (.slice a l c) := ⟨rfl⟩
instance {a : Option Addr} : Ndg (.pointer a) := ⟨rfl⟩
instance {n : Int} : Ndg (.int .i64 n) := ⟨rfl⟩
instance {n : Int} : Ndg (.int .u64 n) := ⟨rfl⟩
class Ndl (l : List Value) : Prop where out : ∀ u ∈ l, Am u = false
instance Ndl.nil : Ndl [] := ⟨fun _ h => nomatch h⟩
instance Ndl.cons {v : Value} {l : List Value} [h1 : Ndg v] [h2 : Ndl l] : Ndl (v :: l) := ⟨fun u h => by
 rcases List.mem_cons.1 h with rfl | h
 ·exact h1.out
 ·exact h2.out _ h⟩
variable {v x : Value}
instance Ndl.set {l : List Value} [h1 : Ndg v] [h2 : Ndl l] : Ndl (l.set i v) := ⟨fun u h => by
 rcases List.mem_or_eq_of_mem_set h with h | rfl
 ·exact h2.out _ h
 ·exact h1.out⟩
class BoxT (t : TypeId) : Prop where
 tape : t ≠ 75
 pair : t ≠ 254
 tree : t ≠ 179
instance : BoxT 47 := by constructor <;> decide
instance : BoxT 49 := by constructor <;> decide
instance : BoxT 70 := by constructor <;> decide
instance : BoxT 181 := by constructor <;> decide
instance : BoxT 28 := by constructor <;> decide
instance : BoxT 30 := by constructor <;> decide
instance : BoxT 40 := by constructor <;> decide
instance : BoxT 96 := by constructor <;> decide
instance : BoxT 98 := by constructor <;> decide
instance : BoxT 161 := by constructor <;> decide
instance : BoxT 163 := by constructor <;> decide
instance : BoxT 165 := by constructor <;> decide
instance : BoxT 349 := by constructor <;> decide
instance : BoxT 351 := by constructor <;> decide
instance : BoxT 4 := by constructor <;> decide
instance : BoxT 3 := by constructor <;> decide
instance : BoxT 2 := by constructor <;> decide
instance : BoxT 198 := by constructor <;> decide
instance : BoxT 45 := by constructor <;> decide
instance : BoxT 26 := by constructor <;> decide
instance : BoxT 25 := by constructor <;> decide
instance : BoxT 56 := by constructor <;> decide
instance : BoxT 9 := by constructor <;> decide
class LtN (a b : Nat) : Prop where out : a < b
class NeN (a b : Nat) : Prop where out : a ≠ b
instance LtN.one : LtN a (a + 1) := ⟨Nat.lt_succ_self a⟩
instance (priority := low) LtN.step [h : LtN a b] : LtN a (b + 1) := ⟨Nat.lt_succ_of_lt h.out⟩
instance NeN.l [h : LtN a b] : NeN a b := ⟨Nat.ne_of_lt h.out⟩
instance NeN.r [h : LtN b a] : NeN a b := ⟨Nat.ne_of_gt h.out⟩
theorem E0 (h : b < W.heap.size) : (W.alloc o).heap[b]? = W.heap[b]? := by
 simp only [World.alloc, Array.getElem?_push]; rw [if_neg (by omega)]
theorem P6 : (W.alloc o).heap[W.heap.size]? = some o := by
 show (W.heap.push o)[W.heap.size]? = some o
 simp
class Bx (W : World) (b : Nat) (t : outParam TypeId) (l : outParam (List Value)) : Prop where out : W.heap[b]? = some (.cells l.toArray t (0, 0))
variable {t : TypeId}
theorem Bx.lt {l : List Value} (h : Bx W b t l) : b < W.heap.size := Ep h.out
instance Bx.new {l : List Value} [h : Sz W b] : Bx (W.alloc (.cells l.toArray t (0, 0))) b t l := ⟨by rw [← h.out]; exact P6⟩
instance (priority := low) Bx.al {l : List Value} [h : Bx W b t l] : Bx (W.alloc o) b t l := ⟨by rw [E0 h.lt]; exact h.out⟩
instance Bx.dr {l : List Value} [h : Bx W b t l] : Bx W.drew b t l := ⟨h.out⟩
instance Bx.drN {l : List Value} [h : Bx W b t l] : Bx (W.drewN j) b t l := ⟨h.out⟩
instance Bx.kp {l : List Value} [k : Kp1 W W2] [h : Bx W b t l] : Bx W2 b t l := ⟨by rw [k.out.block b h.lt]; exact h.out⟩
instance Bx.tp {l : List Value} [k : Tp1 W W2 g] [h : Bx W b t l] [ht : BoxT t] : Bx W2 b t l := ⟨by
 rw [k.gb.block b h.lt ?_]
 ·exact h.out
 ·intro e
  injection e with e
  subst e; obtain ⟨a, n, c, at_, zs, hh, _⟩ := k.tp; rw [h.out] at hh
  injection hh with hh
  injection hh with _ h2
  exact ht.tape h2⟩
instance (priority := low) Bx.setO {l : List Value} [h : Bx W b t l] [n : NeN q b] : Bx (W.setCell ⟨q, i, none⟩ x) b t l := ⟨by
 simp only [World.setCell, Array.getElem?_modify]
 rw [if_neg n.out]; exact h.out⟩
instance Bx.setS {l : List Value} [h : Bx W b t l] : Bx (W.setCell ⟨b, i, none⟩ x) b t (l.set i x) := ⟨by
 simp only [World.setCell, Array.getElem?_modify, if_pos]
 rw [h.out]; simp⟩
instance LtN.bx {l : List Value} [h : Bx W b t l] : LtN b W.heap.size := ⟨h.lt⟩
@[go_sem] theorem B8 {l : List Value} [h : Bx W b t l] : W.cell? ⟨b, i, none⟩ = l[i]? := by
 simp [World.cell?, h.out]
@[go_sem] theorem Qno {l : List Value} [h : Bx W b t l] : W.frozen? ⟨b, i, none⟩ = false := by
 simp [World.frozen?, h.out]
class SoftB (W : World) (b : Nat) : Prop where out : ∃ t l, W.heap[b]? = some (.cells (List.toArray l) t (0, 0)) ∧ BoxT t ∧ ∀ u ∈ l, Am u = false
instance SoftB.mk' {l : List Value} [h : Bx W b t l] [ht : BoxT t] [hl : Ndl l] : SoftB W b := ⟨t, l, h.out, ht, hl.out⟩
theorem SoftB.no {u : Value} (h : SoftB W q) (hc : W.cell? ⟨q, i, none⟩ = some u) : Am u = false := by
 obtain ⟨t, l, h1, _, h2⟩ := h.out; simp only [World.cell?, h1] at hc
 have hc : l[i]? = some u := by simpa using hc
 exact h2 u (List.mem_of_getElem? hc)
class Kp (w W : World) : Prop where out : Below w.heap.size w W
class Ge (w : World) (b : Nat) : Prop where out : w.heap.size ≤ b
instance Ge.base : Ge w w.heap.size := ⟨Nat.le_refl _⟩
instance Ge.step [h : Ge w b] : Ge w (b + 1) := ⟨Nat.le_succ_of_le h.out⟩
instance (priority := low) Ge.sz [h : Sz w b] : Ge w b := ⟨Nat.le_of_eq h.out⟩
instance (priority := low) Ge.kp [h : Kp w W] : Ge w W.heap.size := ⟨h.out.size⟩
instance Kp.refl : Kp w w := ⟨Below.refl _ _⟩
instance Kp.al [h : Kp w W] : Kp w (W.alloc o) := ⟨J3 h.out o⟩
instance Kp.dr [h : Kp w W] : Kp w W.drew := ⟨D0 h.out⟩
instance Kp.drN [h : Kp w W] : Kp w (W.drewN j) := ⟨Be h.out j⟩
instance Kp.st [h : Kp w W] [g : Ge w q] : Kp w (W.setCell ⟨q, i, none⟩ x) := ⟨Qis x h.out g.out⟩
instance (priority := low) Kp.kp [k : Kp1 W W2] [h : Kp w W] : Kp w W2 := ⟨Ar h.out k.out⟩
instance (priority := low) Kp.tp [k : Tp1 W W2 g] [h : Kp w W] [n : Ge w g] : Kp w W2 := ⟨Qjh h.out k.gb n.out⟩
class Ct (W : World) (g : Nat) : Prop where out : Bo W g
instance Ct.al [h : Ct W g] : Ct (W.alloc o) g := ⟨h.out.al⟩
instance Ct.dr [h : Ct W g] : Ct W.drew g := ⟨h.out.dr⟩
instance Ct.kp [k : Kp1 W W2] [h : Ct W g] : Ct W2 g := ⟨h.out.keep k.out⟩
instance Ct.st [h : Ct W g] [n : LtN g q] : Ct (W.setCell ⟨q, i, none⟩ x) g := ⟨h.out.set2 n.out⟩
instance LtN.ct [h : Ct W g] : LtN g W.heap.size := ⟨h.out.lt⟩
class Gb (w W : World) (g : Nat) : Prop where out : w.grownBy W (some g)
instance Gb.refl : Gb w w g := ⟨Qhx _ _⟩
instance Gb.al [h : Gb w W g] : Gb w (W.alloc o) g := ⟨Qaj h.out⟩
instance Gb.dr [h : Gb w W g] : Gb w W.drew g := ⟨Qh2 h.out⟩
instance (priority := low) Gb.kp [k : Kp1 W W2] [h : Gb w W g] : Gb w W2 g := ⟨Qiz k.out h.out⟩
instance (priority := low) Gb.tp [k : Tp1 W W2 g] [h : Gb w W g] : Gb w W2 g := ⟨Ql5 k.gb h.out⟩
class Kz (w W : World) : Prop where out : w.heap.size ≤ W.heap.size
instance Kz.refl : Kz w w := ⟨Nat.le_refl _⟩
instance Kz.al [h : Kz w W] : Kz w (W.alloc o) := ⟨by rw [World.size_alloc]; exact Nat.le_succ_of_le h.out⟩
instance Kz.dr [h : Kz w W] : Kz w W.drew := ⟨h.out⟩
instance Kz.st {p : Addr} [h : Kz w W] : Kz w (W.setCell p x) := ⟨by rw [World.size_setCell]; exact h.out⟩
instance (priority := low) Kz.kp [k : Kp1 W W2] [h : Kz w W] : Kz w W2 := ⟨Nat.le_trans h.out k.out.size⟩
instance (priority := low) Kz.tp [k : Tp1 W W2 g] [h : Kz w W] : Kz w W2 := ⟨Nat.le_trans h.out k.gb.size⟩
class Gg (w : World) (b : Nat) : Prop where out : w.heap.size ≤ b
instance Gg.base : Gg w w.heap.size := ⟨Nat.le_refl _⟩
instance Gg.step [h : Gg w b] : Gg w (b + 1) := ⟨Nat.le_succ_of_le h.out⟩
instance (priority := low) Gg.sz [h : Sz w b] : Gg w b := ⟨Nat.le_of_eq h.out⟩
instance (priority := low) Gg.gb [h : Kz w W] : Gg w W.heap.size := ⟨h.out⟩
instance Gb.st [h : Gb w W g] [n : Gg w q] : Gb w (W.setCell ⟨q, i, none⟩ x) g := ⟨Qjn n.out h.out⟩
class Ex (W0 : World) (L : List Nat) (W : World) : Prop where
 size : W0.heap.size ≤ W.heap.size
 block : ∀ k, k < W0.heap.size → k ∉ L → W.heap[k]? = W0.heap[k]?
class Ex1 (W0 : outParam World) (L : outParam (List Nat)) (W : World) : Prop where out : Ex W0 L W
class InL (q : Nat) (L : List Nat) : Prop where out : q ∈ L
variable {L : List Nat}
instance InL.hd : InL q (q :: L) := ⟨List.mem_cons_self ..⟩
instance (priority := low) InL.tl {x : Nat} [h : InL q L] : InL q (x :: L) := ⟨List.mem_cons_of_mem _ h.out⟩
class NoL (q : Nat) (L : List Nat) : Prop where out : q ∉ L
instance NoL.nil : NoL q [] := ⟨fun h => nomatch h⟩
instance NoL.cons {q x : Nat} {L : List Nat} [h1 : NeN q x] [h2 : NoL q L] : NoL q (x :: L) := ⟨fun h => (List.mem_cons.1 h).elim h1.out h2.out⟩
instance Ex.refl : Ex W L W := ⟨Nat.le_refl _, fun _ _ _ => rfl⟩
instance Ex.dr [h : Ex W0 L W] : Ex W0 L W.drew := ⟨h.size, h.block⟩
instance Ex.al [h : Ex W0 L W] : Ex W0 L (W.alloc o) :=
 ⟨by rw [World.size_alloc]; exact Nat.le_succ_of_le h.size, fun k hk hL => by rw [E0 (Nat.lt_of_lt_of_le hk h.size)]; exact h.block k hk hL⟩
instance (priority := low) Ex.kp [k : Kp1 W W2] [h : Ex W0 L W] : Ex W0 L W2 :=
 ⟨Nat.le_trans h.size k.out.size, fun j hj hL => by rw [k.out.block j (Nat.lt_of_lt_of_le hj h.size)]; exact h.block j hj hL⟩
instance Ex.st [n : InL q L] [h : Ex W0 L W] : Ex W0 L (W.setCell ⟨q, i, none⟩ x) :=
 ⟨by rw [World.size_setCell]; exact h.size, fun k hk hL => by
  simp only [World.setCell, Array.getElem?_modify]
  rw [if_neg (fun e => hL (by rw [← e]; exact n.out))]; exact h.block k hk hL⟩
instance (priority := low) Ex.st2 [n : Gg W0 q] [h : Ex W0 L W] : Ex W0 L (W.setCell ⟨q, i, none⟩ x) :=
 ⟨by rw [World.size_setCell]; exact h.size, fun k hk hL => by
  simp only [World.setCell, Array.getElem?_modify]
  rw [if_neg (fun e => by have := n.out; omega)]; exact h.block k hk hL⟩
instance (priority := low) Bx.ex {l : List Value} [e : Ex1 W0 L W] [n : NoL b L] [h : Bx W0 b t l] : Bx W b t l := ⟨by
 rw [e.out.block b h.lt n.out]; exact h.out⟩
theorem Rd.soft {l : List Nat} (h : Rd W v l) (hs : SoftB W q) : Rd (W.setCell ⟨q, i, none⟩ x) v l := by
 obtain ⟨a, cap, rfl, h1, h2, h3, h4⟩ := h
 refine ⟨a, cap, rfl, h1, h2, h3, fun h0 => ?_⟩
 obtain ⟨b, off, rfl, hcell⟩ := h4 h0
 refine ⟨b, off, rfl, fun j hj => ?_⟩
 rw [World.cell?_setCell_other _ _ _ _ (fun e => ?_)]
 ·exact hcell j hj
 ·have hc := hcell j hj
  injection e with e1 e2
  subst e1
  have := hs.no hc
  simp [Am] at this
theorem Nn.soft (h : Nn W v n k) (hs : SoftB W q) : Nn (W.setCell ⟨q, i, none⟩ x) v n k := ⟨h.1.soft hs, h.2⟩
theorem Rr.soft (h : Rr W v n k) (hs : SoftB W q) : Rr (W.setCell ⟨q, i, none⟩ x) v n k := by
 obtain ⟨l, h1, h2⟩ := h; exact ⟨l, h1.soft hs, h2⟩
def Za (W : World) (v : Value) (z : Int) (k : Nat) : Prop := ∃ g a l c, v = .agg #[.bool g, .slice a l c] ∧ Zz W g (.slice a l c) z k
def Ia (W : World) (v : Value) (z : Int) (k : Nat) : Prop := ∃ g a l c, v = .agg #[.bool g, .slice a l c] ∧ Zi W g (.slice a l c) z k
variable {z : Int}
theorem Za.map (h : Za W v z k) (f : ∀ g s, Zz W g s z k → Zz W2 g s z k) : Za W2 v z k := by
 obtain ⟨g, a, l, c, e, h⟩ := h; exact ⟨g, a, l, c, e, f _ _ h⟩
theorem Ia.map (h : Ia W v z k) (f : ∀ g s, Zi W g s z k → Zi W2 g s z k) : Ia W2 v z k := by
 obtain ⟨g, a, l, c, e, h⟩ := h; exact ⟨g, a, l, c, e, f _ _ h⟩
class CN (W : World) (v : Value) (n : outParam Nat) (k : outParam Nat) : Prop where out : Nn W v n k
instance CN.al [h : CN W v n k] : CN (W.alloc o) v n k := ⟨h.out.keep (Bh _ _)⟩
instance CN.dr [h : CN W v n k] : CN W.drew v n k := ⟨h.out.keep (D0 (Below.refl _ _))⟩
instance CN.kp [b : Kp1 W W2] [h : CN W v n k] : CN W2 v n k := ⟨h.out.keep (b.out)⟩
instance CN.st {xv : Value} [b : SoftB W qb] [h : CN W v n k] : CN (W.setCell ⟨qb, ib, none⟩ xv) v n k := ⟨h.out.soft b⟩
class CR (W : World) (v : Value) (n : outParam Nat) (k : outParam Nat) : Prop where out : Rr W v n k
instance CR.al [h : CR W v n k] : CR (W.alloc o) v n k := ⟨h.out.keep (Bh _ _)⟩
instance CR.dr [h : CR W v n k] : CR W.drew v n k := ⟨h.out.keep (D0 (Below.refl _ _))⟩
instance CR.kp [b : Kp1 W W2] [h : CR W v n k] : CR W2 v n k := ⟨h.out.keep (b.out)⟩
instance CR.st {xv : Value} [b : SoftB W qb] [h : CR W v n k] : CR (W.setCell ⟨qb, ib, none⟩ xv) v n k := ⟨h.out.soft b⟩
class CZ (W : World) (v : Value) (z : outParam Int) (k : outParam Nat) : Prop where out : Za W v z k
instance CZ.al [h : CZ W v z k] : CZ (W.alloc o) v z k := ⟨h.out.map fun _ _ h => h.keep (Bh _ _)⟩
instance CZ.dr [h : CZ W v z k] : CZ W.drew v z k := ⟨h.out.map fun _ _ h => h.keep (D0 (Below.refl _ _))⟩
instance CZ.kp [b : Kp1 W W2] [h : CZ W v z k] : CZ W2 v z k := ⟨h.out.map fun _ _ h => h.keep (b.out)⟩
instance CZ.st {xv : Value} [b : SoftB W qb] [h : CZ W v z k] : CZ (W.setCell ⟨qb, ib, none⟩ xv) v z k := ⟨h.out.map fun _ _ h => ⟨h.1, h.2.soft b⟩⟩
class CI (W : World) (v : Value) (z : outParam Int) (k : outParam Nat) : Prop where out : Ia W v z k
instance CI.al [h : CI W v z k] : CI (W.alloc o) v z k := ⟨h.out.map fun _ _ h => h.keep (Bh _ _)⟩
instance CI.dr [h : CI W v z k] : CI W.drew v z k := ⟨h.out.map fun _ _ h => h.keep (D0 (Below.refl _ _))⟩
instance CI.kp [b : Kp1 W W2] [h : CI W v z k] : CI W2 v z k := ⟨h.out.map fun _ _ h => h.keep (b.out)⟩
instance CI.st {xv : Value} [b : SoftB W qb] [h : CI W v z k] : CI (W.setCell ⟨qb, ib, none⟩ xv) v z k := ⟨h.out.map fun _ _ ⟨n, h1, h2⟩ => ⟨n, h1.soft b, h2⟩⟩
instance (priority := low) CR.of [h : CN W v n k] : CR W v n k := ⟨h.out.rr⟩
instance (priority := low) CI.of [h : CZ W v z k] : CI W v z k := ⟨by
 obtain ⟨g, a, l, c, e, h⟩ := h.out
 exact ⟨g, a, l, c, e, h.zi⟩⟩
instance (priority := low) CI.sg {g : Bool} {a : Option Addr} {l : Nat} [h : CR W (.slice a l c) n k] : CI W (.agg #[.bool g, .slice a l c]) (sgn g n) k := ⟨⟨_, _, _, _, rfl, ⟨n, h.out, rfl⟩⟩⟩
instance CN.nil : CN W (.slice none 0 0) 0 0 := ⟨Nn.nil W 0⟩
instance CZ.zero : CZ W (.agg #[.bool false, .slice none 0 0]) 0 0 := ⟨⟨_, _, _, _, rfl, Zz.zero W 0⟩⟩
instance CN.one [h : Sz W b] : CN (W.alloc (.cells #[.int .u32 1] 204)) (.slice (some ⟨b, 0, none⟩) 1 1) 1 1 := ⟨by rw [← h.out]; exact Nn.lit1⟩
theorem Ac {P : Program} {fn : Func} {R : Ending → World → Prop} {a : Act} {p : Tmp} {ty : TypeId} {d : TypeDesc} {l l' : List Value} [hb : Bx W b t l] (hr : fn.results = #[.cell p ty])
  (hu : P.underlying ty = some d) (hd : (match d with | .struct _ | .array _ _ => true | _ => false) = true) (hi : (P.info? ty).map (·.size) = some l.length)
  (hp : a.tmps.getD p undef = .pointer (some ⟨b, 0, none⟩)) (hdf : a.defers = []) (hl : l = l') (hR : R (.returned (.agg l'.toArray)) W) : bodyPost P fn R .ret a W := by
 subst hl
 refine Qjo hr hp (M1 W b ty l d hu hd hi (fun j hj => ?_)) hdf hR
 rw [B8, List.getElem?_eq_getElem hj]
end
section
section
variable {P : Program} {ops : Array Oper} {Q : Exit → Act → World → Prop} {md : Region.Mode} {S : World → Prop} {T : Nat → Bool}
def A5 (P : Program) (md : Region.Mode) (ops : Array Oper) (Q : Exit → Act → World → Prop) (S : World → Prop) (T : Nat → Bool) : Nat → Array Bool → Act → World → Prop
 | 0, listed, a, w => Region.ready md ops listed = [] ∧ Q .normal a w
 | fuel + 1, listed, a, w => (Region.ready md ops listed = [] → Q .normal a w) ∧
  ∀ i ∈ Region.ready md ops listed, wpOp P ops Q i (fun a' w' => (T i = false → S w') ∧ A5 P md ops Q S T fuel (listed.setIfInBounds i true) a' w') a w
theorem U4 : ∀ (fuel : Nat) (listed : Array Bool) (a : Act) (w : World), A5 P md ops Q S T fuel listed a w → wpAny P md ops Q fuel listed a w
 | 0, _, _, _, h => h
 | fuel + 1, _, _, _, h => ⟨h.1, fun i hi => wpOp_mono (fun a' w' k => U4 fuel _ a' w' k.2) (h.2 i hi)⟩
def waits (md : Region.Mode) (ops : Array Oper) (i j : Nat) : Bool := match ops[j]? with
 | some o => o.after.any fun e => Region.binds md e && e.on == i
 | none => true
theorem Qcm {i j : Nat} {oj : Oper} (hj : ops[j]? = some oj) (hw : waits md ops i j = true) : ∃ e ∈ oj.after, Region.binds md e = true ∧ e.on = i := by
 unfold waits at hw; rw [hj] at hw; obtain ⟨e, he, h⟩ := Array.any_eq_true'.1 hw; simp only [Bool.and_eq_true, beq_iff_eq] at h; exact ⟨e, he, h.1, h.2⟩
theorem Qfm {i : Nat} {oi : Oper} {v : Value} (hi : ops[i]? = some oi) (hsel : ∀ (j : Nat) (o : Oper) cs b, ops[j]? = some o → o.op ≠ .select cs b)
  (hQ : ∀ c a w, Q (.panic c) (a.put oi.dst v) w → Q (.panic c) a w) (hT : ∀ j, T j = true → waits md ops i j = true) :
  ∀ (fuel : Nat) (listed : Array Bool) (a : Act) (w : World),
   (∀ j oj, ops[j]? = some oj → j ≠ i → listed.getD j true = false → (∀ e ∈ oj.after, Region.binds md e = true → e.on ≠ i) → oi.apart ops oj = true) →
   i ∈ Region.ready md ops listed → YieldsIf P ops S oi v a → S w →
   A5 P md ops Q S T fuel (listed.setIfInBounds i true) (a.put oi.dst v) w → A5 P md ops Q S T (fuel + 1) listed a w := by
 intro fuel
 induction fuel with
 | zero =>
  intro listed a w _ hr hy hS H
  refine ⟨fun h => (by rw [h] at hr; cases hr), fun j hj => ?_⟩
  by_cases hji : j = i
  ·subst hji; exact hy.wpOp hi hS ⟨fun _ => hS, H⟩
  ·have h0 := ready_mono hj hji
   rw [H.1] at h0
   cases h0
 | succ fuel ih =>
  intro listed a w hfree hr hy hS H
  refine ⟨fun h => (by rw [h] at hr; cases hr), fun j hj => ?_⟩
  by_cases hji : j = i
  ·subst hji; exact hy.wpOp hi hS ⟨fun _ => hS, H⟩
  ·obtain ⟨hjun, oj, hoj, hall⟩ := mem_ready.1 hj
   have hiun := (mem_ready.1 hr).1
   have hnot : ∀ e ∈ oj.after, Region.binds md e = true → e.on ≠ i := fun e he hb heq => by
    have h1 := hall e he hb
    rw [heq] at h1
    rcases Nat.lt_or_ge i listed.size with h' | h'
    ·simp [h'] at hiun h1; rw [hiun] at h1; cases h1
    ·simp [Array.getElem?_eq_none h'] at h1
   have hTj : T j = false := by
    cases hc : T j with
    | false => rfl
    | true =>
     obtain ⟨e, he, hb, ho⟩ := Qcm hoj (hT j hc); exact absurd ho (hnot e he hb)
   have k := wpOp_putIf hoj (hfree j oj hoj hji hjun hnot) (fun cs b => hsel i oi cs b hi) (fun cs b => hsel j oj cs b hoj) hQ hy (H.2 j (ready_mono hj hji))
   refine wpOp_mono (fun a' w' q => ⟨fun _ => q.2.1 hTj, ih (listed.setIfInBounds j true) a' w' (fun m om hm hmi hun hno => hfree m om hm hmi ?_ hno) (ready_mono hr (Ne.symm hji)) q.1 (q.2.1 hTj) ?_⟩) k
   ·by_cases hjm : j = m
    ·subst hjm; exact hjun
    ·rw [getD_set_ne true hjm] at hun; exact hun
   ·rw [Array.setIfInBounds_comm _ _ hji]; exact q.2.2
theorem Tt {i : Nat} {oi : Oper} {v : Value} {fuel : Nat} {listed : Array Bool} {a : Act} {w : World} (hi : ops[i]? = some oi)
  (hs : Region.noSelect ops = true) (hf : Region.free md ops listed i = true) (hr : (Region.ready md ops listed).contains i = true)
  (hQ : ∀ c a w, Q (.panic c) (a.put oi.dst v) w → Q (.panic c) a w) (hT : ∀ j, T j = true → waits md ops i j = true) (hy : YieldsIf P ops S oi v a) (hS : S w)
  (h : A5 P md ops Q S T fuel (listed.setIfInBounds i true) (a.put oi.dst v) w) : A5 P md ops Q S T (fuel + 1) listed a w :=
 Qfm hi (Region.noSelect_spec hs) hQ hT fuel listed a w (Region.free_spec hi hf) (by simpa using hr) hy hS h
theorem Qhq {i : Nat} {oi : Oper} {v : Value} (hi : ops[i]? = some oi) (hsel : ∀ (j : Nat) (o : Oper) cs b, ops[j]? = some o → o.op ≠ .select cs b)
  (hQ : ∀ c a w, Q (.panic c) (a.put oi.dst v) w → Q (.panic c) a w) (hTi : T i = true) :
  ∀ (fuel : Nat) (listed : Array Bool) (a : Act) (w : World),
   (∀ j oj, ops[j]? = some oj → j ≠ i → listed.getD j true = false → (∀ e ∈ oj.after, Region.binds md e = true → e.on ≠ i) → oi.apart ops oj = true) →
   i ∈ Region.ready md ops listed → YieldsIf P ops (fun _ => True) oi v a →
   A5 P md ops Q S T fuel (listed.setIfInBounds i true) (a.put oi.dst v) w → A5 P md ops Q S T (fuel + 1) listed a w := by
 have hno : ∀ w : World, T i = false → S w := fun w h => by rw [hTi] at h; cases h
 intro fuel
 induction fuel with
 | zero =>
  intro listed a w _ hr hy H
  refine ⟨fun h => (by rw [h] at hr; cases hr), fun j hj => ?_⟩
  by_cases hji : j = i
  ·subst hji; exact hy.wpOp hi trivial ⟨hno w, H⟩
  ·have h0 := ready_mono hj hji
   rw [H.1] at h0
   cases h0
 | succ fuel ih =>
  intro listed a w hfree hr hy H
  refine ⟨fun h => (by rw [h] at hr; cases hr), fun j hj => ?_⟩
  by_cases hji : j = i
  ·subst hji; exact hy.wpOp hi trivial ⟨hno w, H⟩
  ·obtain ⟨hjun, oj, hoj, hall⟩ := mem_ready.1 hj
   have hiun := (mem_ready.1 hr).1
   have hnot : ∀ e ∈ oj.after, Region.binds md e = true → e.on ≠ i := fun e he hb heq => by
    have h1 := hall e he hb
    rw [heq] at h1
    rcases Nat.lt_or_ge i listed.size with h' | h'
    ·simp [h'] at hiun h1; rw [hiun] at h1; cases h1
    ·simp [Array.getElem?_eq_none h'] at h1
   have k := wpOp_putIf hoj (hfree j oj hoj hji hjun hnot) (fun cs b => hsel i oi cs b hi) (fun cs b => hsel j oj cs b hoj) hQ hy (H.2 j (ready_mono hj hji))
   refine wpOp_mono (fun a' w' q => ⟨q.2.1, ih (listed.setIfInBounds j true) a' w' (fun m om hm hmi hun hno => hfree m om hm hmi ?_ hno) (ready_mono hr (Ne.symm hji)) q.1 ?_⟩) k
   ·by_cases hjm : j = m
    ·subst hjm; exact hjun
    ·rw [getD_set_ne true hjm] at hun; exact hun
   ·rw [Array.setIfInBounds_comm _ _ hji]; exact q.2.2
theorem Qa3 {i : Nat} {oi : Oper} {v : Value} {fuel : Nat} {listed : Array Bool} {a : Act} {w : World} (hi : ops[i]? = some oi)
  (hs : Region.noSelect ops = true) (hf : Region.free md ops listed i = true) (hr : (Region.ready md ops listed).contains i = true)
  (hQ : ∀ c a w, Q (.panic c) (a.put oi.dst v) w → Q (.panic c) a w) (hTi : T i = true) (hy : YieldsIf P ops (fun _ => True) oi v a)
  (h : A5 P md ops Q S T fuel (listed.setIfInBounds i true) (a.put oi.dst v) w) : A5 P md ops Q S T (fuel + 1) listed a w :=
 Qhq hi (Region.noSelect_spec hs) hQ hTi fuel listed a w (Region.free_spec hi hf) (by simpa using hr) hy h
def Lm (P : Program) (md : Region.Mode) (ops : Array Oper) (Q : Exit → Act → World → Prop) (S : World → Prop) (T : Nat → Bool) (fuel : Nat) (listed : Array Bool) (a : Act) (w : World) (rs : List Nat) : Prop :=
 ∀ i ∈ rs, wpOp P ops Q i (fun a' w' => (T i = false → S w') ∧ A5 P md ops Q S T fuel (listed.setIfInBounds i true) a' w') a w
theorem Lm.nil {fuel : Nat} {listed : Array Bool} {a : Act} {w : World} : Lm P md ops Q S T fuel listed a w [] := fun _ h => by cases h
theorem Lm.cons {fuel : Nat} {listed : Array Bool} {a : Act} {w : World} {i : Nat} {o : Oper} {rs : List Nat} (ho : ops[i]? = some o)
  (h : ∀ K' : Act → World → Prop, Shut (∀ a w, (T i = false → S w) → ((T i = false → S w) → A5 P md ops Q S T fuel (listed.setIfInBounds i true) a w) → K' a w) → if Region.wanted o (yielded ops a.tmps) = true then Oper.wp P o a w K' Q else K' (a.put o.dst undef) w)
  (hs : Lm P md ops Q S T fuel listed a w rs) : Lm P md ops Q S T fuel listed a w (i :: rs) := fun j hj => by
 rcases List.mem_cons.1 hj with rfl | hj
 ·exact wpOp_step ho (fun K' hK => h K' (fun a w hS hW => hK a w ⟨hS, hW hS⟩))
 ·exact hs j hj
theorem Az {rs : List Nat} {fuel : Nat} {listed : Array Bool} {a : Act} {w : World} (hr : Region.ready md ops listed = rs) (hne : rs ≠ [])
  (h : Lm P md ops Q S T fuel listed a w rs) : A5 P md ops Q S T (fuel + 1) listed a w := ⟨fun h0 => absurd (hr ▸ h0) hne, hr ▸ h⟩
theorem Qi1 {listed : Array Bool} {a : Act} {w : World} (hr : Region.ready md ops listed = []) (h : Q .normal a w) : ∀ fuel, A5 P md ops Q S T fuel listed a w
 | 0 => ⟨hr, h⟩
 | _ + 1 => ⟨fun _ => h, by rw [hr]; simp⟩
theorem Zn {id : Nat} {a : Act} {w : World} (hm : P.follows .mixedOrders = true) (L : List Nat) (T : Nat → Bool)
  (h : Ex w L w.drew → A5 P .any ops Q (Ex w L) T ops.size (Array.replicate ops.size false) a w.drew) : (Code.region id ops true).wp P Q a w :=
 wp_region_any hm (U4 _ _ _ _ (h Ex.dr))
theorem Tm {i : Nat} {L : List Nat} (h : (L.all fun j => waits md ops i j) = true) : ∀ j, (L.contains j) = true → waits md ops i j = true := fun j hj => by
 have := List.all_eq_true.1 h j (by simpa using hj)
 exact this
end
section
variable {P : Program} {ops : Array Oper} {Q : Exit → Act → World → Prop} {md : Region.Mode} {w0 : World} {L Ts : List Nat}
theorem rgn {id : Nat} {a : Act} {w : World} (L Ts : List Nat) (h : Ex w L w.drew → A5 P .any ops Q (Ex w L) Ts.contains ops.size (Array.replicate ops.size false) a w.drew) (hm : P.follows .mixedOrders = true := by kernel_rfl) : (Code.region id ops true).wp P Q a w := Zn hm L Ts.contains h
theorem tk (i : Nat) {oi : Oper} {v : Value} {fuel : Nat} {listed : Array Bool} {a a' : Act} {w : World} (hS : Ex w0 L w) (h : A5 P md ops Q (Ex w0 L) Ts.contains fuel (listed.setIfInBounds i true) a' w)
  (hi : ops[i]? = some oi := by simp; rfl) (hs : Region.noSelect ops = true := by kernel_rfl) (hf : Region.free md ops listed i = true := by kernel_rfl) (hr : (Region.ready md ops listed).contains i = true := by kernel_rfl)
  (hQ : ∀ c a w, Q (.panic c) (a.put oi.dst v) w → Q (.panic c) a w := by exact fun _ _ _ h => h) (hT : (Ts.all fun j => waits md ops i j) = true := by kernel_rfl) (hw : Region.wanted oi (yielded ops a.tmps) = true := by rfl)
  (hy : ∀ wx, Ex w0 L wx → (execOp a.eval oi).run P wx = .ok (.value v) wx := by (intro wx hSw; have hSx := Ex1.mk hSw; go_simp; try with_reducible rfl))
  (ha : a.put oi.dst v = a' := by (simp only [Act.put, List.setIfInBounds_toArray, List.set_cons_zero, List.set_cons_succ]; first | done | rfl)) : A5 P md ops Q (Ex w0 L) Ts.contains (fuel + 1) listed a w := by
 subst ha; exact Tt hi hs hf hr hQ (Tm hT) (Or.inl ⟨hw, hy⟩) hS h
theorem tkU (i : Nat) {oi : Oper} {fuel : Nat} {listed : Array Bool} {a a' : Act} {w : World} (hS : Ex w0 L w) (h : A5 P md ops Q (Ex w0 L) Ts.contains fuel (listed.setIfInBounds i true) a' w)
  (hi : ops[i]? = some oi := by simp; rfl) (hs : Region.noSelect ops = true := by kernel_rfl) (hf : Region.free md ops listed i = true := by kernel_rfl) (hr : (Region.ready md ops listed).contains i = true := by kernel_rfl)
  (hQ : ∀ c a w, Q (.panic c) (a.put oi.dst undef) w → Q (.panic c) a w := by exact fun _ _ _ h => h) (hT : (Ts.all fun j => waits md ops i j) = true := by kernel_rfl) (hw : Region.wanted oi (yielded ops a.tmps) = false := by rfl)
  (ha : a.put oi.dst undef = a' := by (simp only [Act.put, List.setIfInBounds_toArray, List.set_cons_zero, List.set_cons_succ]; first | done | rfl)) : A5 P md ops Q (Ex w0 L) Ts.contains (fuel + 1) listed a w := by
 subst ha; exact Tt hi hs hf hr hQ (Tm hT) (Or.inr ⟨hw, rfl⟩) hS h
theorem tk0 (i : Nat) {oi : Oper} {v : Value} {fuel : Nat} {listed : Array Bool} {a a' : Act} {w : World} (h : A5 P md ops Q (Ex w0 L) Ts.contains fuel (listed.setIfInBounds i true) a' w)
  (hi : ops[i]? = some oi := by simp; rfl) (hs : Region.noSelect ops = true := by kernel_rfl) (hf : Region.free md ops listed i = true := by kernel_rfl) (hr : (Region.ready md ops listed).contains i = true := by kernel_rfl)
  (hQ : ∀ c a w, Q (.panic c) (a.put oi.dst v) w → Q (.panic c) a w := by exact fun _ _ _ h => h) (hTi : Ts.contains i = true := by rfl) (hw : Region.wanted oi (yielded ops a.tmps) = true := by rfl)
  (hy : ∀ wx, True → (execOp a.eval oi).run P wx = .ok (.value v) wx := by (intro wx _; go_simp; try with_reducible rfl))
  (ha : a.put oi.dst v = a' := by (simp only [Act.put, List.setIfInBounds_toArray, List.set_cons_zero, List.set_cons_succ]; first | done | rfl)) : A5 P md ops Q (Ex w0 L) Ts.contains (fuel + 1) listed a w := by
 subst ha; exact Qa3 hi hs hf hr hQ hTi (Or.inl ⟨hw, hy⟩) h
theorem st (i : Nat) {o : Oper} {fuel : Nat} {listed : Array Bool} {a : Act} {w : World}
  (h : ∀ K' : Act → World → Prop, Shut (∀ a w, (Ts.contains i = false → Ex w0 L w) → ((Ts.contains i = false → Ex w0 L w) → A5 P md ops Q (Ex w0 L) Ts.contains fuel (listed.setIfInBounds i true) a w) → K' a w) → if Region.wanted o (yielded ops a.tmps) = true then Oper.wp P o a w K' Q else K' (a.put o.dst undef) w)
  (hr : Region.ready md ops listed = [i] := by kernel_rfl) (ho : ops[i]? = some o := by simp; rfl) : A5 P md ops Q (Ex w0 L) Ts.contains (fuel + 1) listed a w := Az hr (by simp) (Lm.cons ho h Lm.nil)
theorem hd {K : Act → World → Prop} {i fuel : Nat} {listed : Array Bool} {a a' : Act} {w : World} (hK : Shut (∀ a w, (Ts.contains i = false → Ex w0 L w) → ((Ts.contains i = false → Ex w0 L w) → A5 P md ops Q (Ex w0 L) Ts.contains fuel listed a w) → K a w)) [hS : Ex w0 L w]
  (h : Ex w0 L w → A5 P md ops Q (Ex w0 L) Ts.contains fuel listed a' w) (ha : a = a' := by (try simp only [Act.put, List.setIfInBounds_toArray, List.set_cons_zero, List.set_cons_succ]); first | done | rfl) : K a w :=
 hK.out a w (fun _ => hS) (fun _ => by subst ha; exact h hS)
theorem hdT {K : Act → World → Prop} {i fuel : Nat} {listed : Array Bool} {a a' : Act} {w : World} (hK : Shut (∀ a w, (Ts.contains i = false → Ex w0 L w) → ((Ts.contains i = false → Ex w0 L w) → A5 P md ops Q (Ex w0 L) Ts.contains fuel listed a w) → K a w))
  (h : A5 P md ops Q (Ex w0 L) Ts.contains fuel listed a' w) (hTi : Ts.contains i = true := by rfl) (ha : a = a' := by (try simp only [Act.put, List.setIfInBounds_toArray, List.set_cons_zero, List.set_cons_succ]); first | done | rfl) : K a w :=
 hK.out a w (fun e => by rw [hTi] at e; cases e) (fun _ => by subst ha; exact h)
theorem dn {fuel : Nat} {listed : Array Bool} {a : Act} {w : World} (h : Q .normal a w) (hr : Region.ready md ops listed = [] := by kernel_rfl) : A5 P md ops Q (Ex w0 L) Ts.contains fuel listed a w := Qi1 hr h fuel
end
class Nw (w0 : outParam World) (q : Nat) : Prop where out : w0.heap.size ≤ q
variable {b : Nat} {w w0 : World}
instance LtN.nw {q : Nat} {t : TypeId} {l : List Value} [n : Nw w0 q] [h : Bx w0 b t l] : LtN b q := ⟨Nat.lt_of_lt_of_le h.lt n.out⟩
theorem Ly {P : Program} {ops : Array Oper} {Q : Exit → Act → World → Prop} {id : Nat} {a : Act} (L Ts : List Nat) (h : ∀ w0, Hid (w0 = w) → Ex w L w.drew → A5 P .any ops Q (Ex w L) Ts.contains ops.size (Array.replicate ops.size false) a w.drew) (hm : P.follows .mixedOrders = true := by kernel_rfl) : (Code.region id ops true).wp P Q a w := Zn hm L Ts.contains (h w (Lib.hid rfl))
theorem Gl (e : Hid (w0 = w)) {W : World} [h : Kp w W] : Kp w0 W := by rw [e.out]; exact h
theorem Jg (e : Hid (w0 = w)) (h : Gg w0 b) : Gg w b := by rw [← e.out]; exact h
theorem Jl (e : Hid (w0 = w)) (h : Ge w0 b) : Nw w b := by rw [← e.out]; exact ⟨h.out⟩
end
section
set_option maxHeartbeats 40000000
set_option synthInstance.maxHeartbeats 1000000
set_option synthInstance.maxSize 100000
theorem Qd5 {m n k : Nat} (h1 : (nf m).length ≤ k) (h2 : (nf n).length ≤ k) : (nf (Nat.gcd m n)).length ≤ k := by
 by_cases h0 : m = 0
 ·subst h0; rw [Nat.gcd_zero_left]; exact h2
 ·exact E5 (Nat.gcd_le_left _ (Nat.pos_of_ne_zero h0)) h1
theorem Qc0 {w : World} {u v : Value} {m n k1 k2 : Nat} (hu : Nn w u m k1) (hv : Nn w v n k2) (hk1 : k1 ≤ 200000) (hk2 : k2 ≤ 200000) :
  Calls Tryz.prog 104 #[u, v] w (C8 w (Nat.gcd m n) (max k1 k2)) := by
 obtain ⟨a1, c1, rfl⟩ := hu.1.sl; obtain ⟨a2, c2, rfl⟩ := hv.1.sl
 have hl1 := Nat.le_trans hu.2 (Nat.le_max_left k1 k2)
 have hl2 := Nat.le_trans hv.2 (Nat.le_max_right k1 k2)
 have hK : max k1 k2 ≤ 200000 := (by omega); have HGL := Lib.hid (Qd5 hl1 hl2); have HL1 := Lib.hid hl1; have HL2 := Lib.hid hl2; have CW := Lib.hid (Jd hu); have CV := Lib.hid (fun (W : World) (h : Below w.heap.size w W) => Jd (hv.keep h)); have HU := Lib.hid hu.1; have HV := Lib.hid hv.1; clear hu hv hl1 hl2 hk1 hk2
 generalize max k1 k2 = K at *
 by_cases hs : m < 18446744073709551616 ∧ n < 18446744073709551616
 ·obtain ⟨hm1, hn1⟩ := hs; have HU1 := Lib.hid (Cv hm1); have HU2 := Lib.hid (Cv hn1); go_enter Tryz.func104, Tryz.ntmps104; go_wp2_with fail
  refine CW.out.mono ?_
  rintro e w1 ⟨rfl, j1, rfl⟩
  rw [HU1.out]; go_wp2_with fail
  refine (CV.out _ (Be (Below.refl _ _) _)).mono ?_
  rintro e w2 ⟨rfl, j2, rfl⟩
  rw [HU2.out]; have B1 := Lib.hid (show Below w.heap.size w (w.drewN (j1 + j2)) from Be (Below.refl _ _) _); go_wp2_with fail
  generalize w.drewN (j1 + j2) = w1 at *
  go_loopw [5, 7] (fun x y wx => ∃ a b : Int, x = .int .u64 a ∧ y = .int .u64 b ∧ 0 ≤ a ∧ a < 18446744073709551616 ∧ 0 ≤ b ∧ b < 18446744073709551616 ∧ Hid (Below w.heap.size w wx) ∧ Hid (Nat.gcd a.toNat b.toNat = Nat.gcd m n)) (fun _ y _ => (intOf y).toNat)
  case atStart => exact ⟨(m : Int), (n : Int), rfl, rfl, by omega, by omega, by omega, by omega, B1, rfl⟩
  case round =>
   obtain ⟨a, b, rfl, rfl, ha0, ha, hb0, hb, hW2, hG2⟩ := hrel
   by_cases h0 : b = 0
   ·have HE : Hid (a.toNat = Nat.gcd m n) := by show _ = _; rw [← hG2.out, h0]; simp
    subst h0; go_wp2_with fail
    refine (Hv _ _ a.toNat (by omega) (by omega)).mono ?_
    rintro e w4 ⟨z, rfl, hz, b4⟩
    go_wp2; go_ret; rw [HE.out] at hz; exact .mk (.of_own hz HGL.out) (Ar hW2.out b4)
   ·obtain ⟨g1, g2⟩ := J1 (by omega : b.toNat ≠ 0) hG2.out; have HG := Lib.hid g1; have HL := Lib.hid g2; have hb1 : 0 < b := (by omega)
    have e2 : a % b = ((a.toNat % b.toNat : Nat) : Int) := by rw [Int.natCast_emod, Int.toNat_of_nonneg ha0, Int.toNat_of_nonneg hb0]
    have E2 := Lib.hid e2
    have e3 : (a % b).toNat = a.toNat % b.toNat := by rw [e2]; rfl
    have E3 := Lib.hid e3; clear g1 g2 e2 e3 h0; go_wp2_with fail; have hq1 : (1 : Int) ≤ b := (by omega)
    have hq0 : (b == 0) = false := by rw [beq_eq_false_iff_ne]; omega
    have hqz : ¬ (b = 0) := (by omega)
    have m1 := Int.emod_nonneg a hqz
    have m2 := Int.emod_lt_of_pos a hb1
    have em : a.tmod b = a % b := Int.tmod_eq_emod_of_nonneg ha0
    go_quiet (fail)
    go_wp2_with fail
    go_roundw
    case rel => exact ⟨b, a % b, rfl, by first | rfl | rw [em], by omega, by omega, m1, by omega, Be hW2.out _, by show _ = _; rw [E3.out]; exact HG.out⟩
    case measure => simp only [intOf]; first | (rw [E3.out]; exact HL.out) | (rw [em, E3.out]; exact HL.out)
 ·have hs : 18446744073709551616 ≤ m ∨ (m < 18446744073709551616 ∧ 18446744073709551616 ≤ n) := by omega
  go_enter Tryz.func104, Tryz.ntmps104
  rcases hs with hs | ⟨hs1, hs2⟩
  ·have HU1 := Lib.hid (Hu hs); clear hs; go_wp2_with fail
   refine CW.out.mono ?_
   rintro e w1 ⟨rfl, j1, rfl⟩
   rw [HU1.out]; have B1 := Lib.hid (show Below w.heap.size w (w.drewN j1) from Be (Below.refl _ _) _)
   generalize w.drewN j1 = w1 at *
   go_wp2_with fail
   go_loopw [0, 1] (fun x y wr => ∃ p q : Nat, Hid (∃ a l c, x = .slice a l c ∧ Rd wr (.slice a l c) (nf p)) ∧ Hid (∃ a l c, y = .slice a l c ∧ Rd wr (.slice a l c) (nf q)) ∧ Hid (Below w.heap.size w wr) ∧ Hid (Nat.gcd p q = Nat.gcd m n) ∧ Hid ((nf p).length ≤ K) ∧ Hid ((nf q).length ≤ K)) (fun _ y wr => Ir wr y)
   case atStart => exact ⟨m, n, ⟨_, _, _, rfl, HU.out.keep B1.out⟩, ⟨_, _, _, rfl, HV.out.keep B1.out⟩, B1, rfl, HL1, HL2⟩
   case round =>
    obtain ⟨p, q, hP, hQ, hW, hG, hlp, hlq⟩ := hrel; obtain ⟨ax, lx, cx, rfl, hx⟩ := hP.out; obtain ⟨ay, ly, cy, rfl, hy⟩ := hQ.out; have HX := Lib.hid hx; have HY := Lib.hid hy
    have hly := hy.len
    clear hP hQ hx hy
    by_cases h0 : q = 0
    ·have HE : Hid (p = Nat.gcd m n) := by show _ = _; rw [← hG.out, h0, Nat.gcd_zero_right]
     have hz : ¬ ((0 : Int) < (ly : Int)) := by rw [hly, h0]; decide
     have HLP := Lib.hid hlp.out; clear h0 hly
     go_wp2_with (at_builtin; go_loud (refine Gx _ rfl (.tmp 42) (.tmp 43) 26 26 rfl Tryz.underlying26 Tryz.underlying26 wr.heap.size _ _ [] (nf p) rfl rfl (Ca wr [] Bv (by simp) _ rfl) (HX.out.keep (Bh _ _)) (by have := HLP.out; simp; omega) (by simp) ?_); intro v1 w3 o1 g1 _)
     have B3 := Gh (Ca wr [] Bv (by simp) _ rfl) (Bh _ _) g1 (Nat.le_refl _)
     go_ret; rw [List.nil_append, HE.out] at o1; exact .mk (.of_own o1 HGL.out) (Ar hW.out B3)
    ·have hz : (0 : Int) < (ly : Int) := by rw [hly]; have := Bw h0; omega
     obtain ⟨g1, g2⟩ := J1 h0 hG.out; have HG := Lib.hid g1; have HL := Lib.hid g2; have CD := Lib.hid (O2 (w := wr) ⟨HX.out, hlp.out⟩ ⟨HY.out, hlq.out⟩ h0 hK); clear g1 g2 h0 hly; go_wp2_with fail
     refine CD.out.mono ?_
     rintro e w3 ⟨aq, lq, cq, ar, lr, cr, rfl, _, hr, b3⟩
     have HR := Lib.hid hr.1
     have hV := I1 HY.out
     have hV2 := I1 hr.1
     rw [Ah] at hV hV2; have HV1 := Lib.hid hV; have HV2 := Lib.hid hV2; have HB3 := Lib.hid b3; clear hr hV hV2 b3; go_wp2_with fail
     go_roundw
     case rel => exact ⟨q, p % q, ⟨_, _, _, rfl, HY.out.keep HB3.out⟩, ⟨_, _, _, rfl, HR.out⟩, Ar hW.out HB3.out, HG, hlq, E5 (Nat.mod_le _ _) hlp.out⟩
     case measure => rw [HV1.out, HV2.out]; exact HL.out
  ·have HU1 := Lib.hid (Cv hs1); have HU2 := Lib.hid (Hu hs2); clear hs1 hs2; go_wp2_with fail
   refine CW.out.mono ?_
   rintro e w1 ⟨rfl, j1, rfl⟩
   rw [HU1.out]; go_wp2_with fail
   refine (CV.out _ (Be (Below.refl _ _) _)).mono ?_
   rintro e w2 ⟨rfl, j2, rfl⟩
   rw [HU2.out]; have B1 := Lib.hid (show Below w.heap.size w (w.drewN (j1 + j2)) from Be (Below.refl _ _) _); go_wp2_with fail
   generalize w.drewN (j1 + j2) = w1 at *
   go_wp2_with fail
   go_loopw [0, 1] (fun x y wr => ∃ p q : Nat, Hid (∃ a l c, x = .slice a l c ∧ Rd wr (.slice a l c) (nf p)) ∧ Hid (∃ a l c, y = .slice a l c ∧ Rd wr (.slice a l c) (nf q)) ∧ Hid (Below w.heap.size w wr) ∧ Hid (Nat.gcd p q = Nat.gcd m n) ∧ Hid ((nf p).length ≤ K) ∧ Hid ((nf q).length ≤ K)) (fun _ y wr => Ir wr y)
   case atStart => exact ⟨m, n, ⟨_, _, _, rfl, HU.out.keep B1.out⟩, ⟨_, _, _, rfl, HV.out.keep B1.out⟩, B1, rfl, HL1, HL2⟩
   case round =>
    obtain ⟨p, q, hP, hQ, hW, hG, hlp, hlq⟩ := hrel; obtain ⟨ax, lx, cx, rfl, hx⟩ := hP.out; obtain ⟨ay, ly, cy, rfl, hy⟩ := hQ.out; have HX := Lib.hid hx; have HY := Lib.hid hy
    have hly := hy.len
    clear hP hQ hx hy
    by_cases h0 : q = 0
    ·have HE : Hid (p = Nat.gcd m n) := by show _ = _; rw [← hG.out, h0, Nat.gcd_zero_right]
     have hz : ¬ ((0 : Int) < (ly : Int)) := by rw [hly, h0]; decide
     have HLP := Lib.hid hlp.out; clear h0 hly
     go_wp2_with (at_builtin; go_loud (refine Gx _ rfl (.tmp 42) (.tmp 43) 26 26 rfl Tryz.underlying26 Tryz.underlying26 wr.heap.size _ _ [] (nf p) rfl rfl (Ca wr [] Bv (by simp) _ rfl) (HX.out.keep (Bh _ _)) (by have := HLP.out; simp; omega) (by simp) ?_); intro v1 w3 o1 g1 _)
     have B3 := Gh (Ca wr [] Bv (by simp) _ rfl) (Bh _ _) g1 (Nat.le_refl _)
     go_ret; rw [List.nil_append, HE.out] at o1; exact .mk (.of_own o1 HGL.out) (Ar hW.out B3)
    ·have hz : (0 : Int) < (ly : Int) := by rw [hly]; have := Bw h0; omega
     obtain ⟨g1, g2⟩ := J1 h0 hG.out; have HG := Lib.hid g1; have HL := Lib.hid g2; have CD := Lib.hid (O2 (w := wr) ⟨HX.out, hlp.out⟩ ⟨HY.out, hlq.out⟩ h0 hK); clear g1 g2 h0 hly; go_wp2_with fail
     refine CD.out.mono ?_
     rintro e w3 ⟨aq, lq, cq, ar, lr, cr, rfl, _, hr, b3⟩
     have HR := Lib.hid hr.1
     have hV := I1 HY.out
     have hV2 := I1 hr.1
     rw [Ah] at hV hV2; have HV1 := Lib.hid hV; have HV2 := Lib.hid hV2; have HB3 := Lib.hid b3; clear hr hV hV2 b3; go_wp2_with fail
     go_roundw
     case rel => exact ⟨q, p % q, ⟨_, _, _, rfl, HY.out.keep HB3.out⟩, ⟨_, _, _, rfl, HR.out⟩, Ar hW.out HB3.out, HG, hlq, E5 (Nat.mod_le _ _) hlp.out⟩
     case measure => rw [HV1.out, HV2.out]; exact HL.out
end
section
variable {x y : Int}
theorem Qlb : sgn (!decide (x < 0)) x.natAbs = -x := by
 unfold sgn
 by_cases h : x < 0 <;> simp [h] <;> omega
theorem Qcr : sgn (decide (x < 0) != decide (y < 0)) (x.natAbs * y.natAbs) = x * y := by
 have h : sgn (decide (x < 0) != decide (y < 0)) (x.natAbs * y.natAbs) = sgn (decide (x < 0)) x.natAbs * sgn (decide (y < 0)) y.natAbs := by
  cases decide (x < 0) <;> cases decide (y < 0) <;> simp [sgn, Int.neg_mul, Int.mul_neg]
 rw [h, Gy, Gy]
theorem Qh5 (h : decide (x < 0) = decide (y < 0)) : sgn (decide (x < 0)) (x.natAbs + y.natAbs) = x + y := by
 have h' : sgn (decide (x < 0)) (x.natAbs + y.natAbs) = sgn (decide (x < 0)) x.natAbs + sgn (decide (y < 0)) y.natAbs := by
  rw [h]; cases decide (y < 0) <;> simp [sgn] <;> omega
 rw [h', Gy, Gy]
theorem Wz {x y : Int} (h : decide (x < 0) ≠ decide (y < 0)) (hl : y.natAbs ≤ x.natAbs) : sgn (decide (x < 0)) (x.natAbs - y.natAbs) = x + y := by
 have h' : sgn (decide (x < 0)) (x.natAbs - y.natAbs) = sgn (decide (x < 0)) x.natAbs + sgn (decide (y < 0)) y.natAbs := by
  revert h; cases decide (x < 0) <;> cases decide (y < 0) <;> simp [sgn] <;> omega
 rw [h', Gy, Gy]
variable {m n : Nat}
theorem Qkh (h : m < n) : (Av m n < 0) ↔ True := by rw [Fl h]; decide
theorem Qf9 (h : n ≤ m) : (Av m n < 0) ↔ False := by
 rcases Nat.lt_or_ge n m with h' | h'
 ·rw [Fx h']; decide
 ·rw [H0 (by omega)]; decide
end
section
variable {K : Ending → World → Prop} {P : Program} {W w w' : World} {args : Array Value} {f : FuncId} {v : Value}
theorem Aa (h : Calls P f args w (fun e w' => e = .returned v ∧ Below w.heap.size w w'))
  (hK : ∀ w' [Kp1 w w'], K (.returned v) w') : Calls P f args w K := by
 refine h.mono ?_
 rintro e w' ⟨rfl, hb⟩
 exact @hK w' ⟨hb⟩
theorem Aq (h : Calls P f args w (fun e w' => e = .returned v ∧ w = w')) (hK : K (.returned v) w) : Calls P f args w K := Qef h hK
theorem E.fin {v' : Value} [b : Kp w w'] (e : v = v') : (fun e w' => e = Ending.returned v' ∧ Below w.heap.size w w') (.returned v) w' := by
 subst e; exact ⟨rfl, b.out⟩
variable {c c1 c2 k k' k1 k2 kx l l1 l2 m n q r : Nat}
theorem CN.cast {n' : Nat} (h : CN W v n k) (e : n = n') (b : k ≤ k') : CN W v n' k' := by
 subst e; exact ⟨h.out.mono b⟩
theorem CZ.cast {n n' : Int} (h : CZ W v n k) (e : n = n') (b : k ≤ k') : CZ W v n' k' := by
 subst e; exact ⟨by obtain ⟨g, a, l, c, e, h'⟩ := h.out; exact ⟨g, a, l, c, e, h'.cast rfl b⟩⟩
def Cm (w : World) (x : Nat) (k : Nat) (e : Ending) (w' : World) : Prop := ∃ a l c, e = .returned (.slice a l c) ∧ CN w' (.slice a l c) x k ∧ Below w.heap.size w w'
theorem Cm.of {e : Ending} (h : C8 w n k e w') : Cm w n k e w' := by
 obtain ⟨a, l, c, e, h, hb⟩ := h; exact ⟨a, l, c, e, ⟨h⟩, hb⟩
theorem Ae {x : Nat} (h : Calls P f args w (Cm w x k))
  (hK : ∀ w' [Kp1 w w'] (a : Option Addr) (l : Nat) (c : Nat) [CN w' (.slice a l c) x k], K (.returned (.slice a l c)) w') : Calls P f args w K := by
 refine h.mono ?_
 rintro e w' ⟨a, l, c, rfl, hx, hb⟩
 exact @hK w' ⟨hb⟩ a l c hx
variable {a a1 a2 : Option Addr}
theorem Cm.fin {x x' : Nat} [b : Kp w w'] [hx : CN w' (.slice a l c) x kx] (ex : x = x') (mx : kx ≤ k) : Cm w x' k (.returned (.slice a l c)) w' :=
 ⟨_, _, _, rfl, hx.cast ex mx, b.out⟩
def Df (w : World) (x : Int) (k : Nat) (e : Ending) (w' : World) : Prop := ∃ g a l c, e = .returned (.agg #[.bool g, .slice a l c]) ∧ CZ w' (.agg #[.bool g, .slice a l c]) x k ∧ Below w.heap.size w w'
variable {x z : Int}
theorem Al (h : Calls P f args w (Df w x k))
  (hK : ∀ w' [Kp1 w w'] (g : Bool) (a : Option Addr) (l : Nat) (c : Nat) [CZ w' (.agg #[.bool g, .slice a l c]) x k], K (.returned (.agg #[.bool g, .slice a l c])) w') : Calls P f args w K := by
 refine h.mono ?_
 rintro e w' ⟨g, a, l, c, rfl, hx, hb⟩
 exact @hK w' ⟨hb⟩ g a l c hx
variable {g g' : Bool}
theorem Df.fin {x' : Int} [b : Kp w w'] [hx : CZ w' (.agg #[.bool g, .slice a l c]) x kx] (ex : x = x') (mx : kx ≤ k) : Df w x' k (.returned (.agg #[.bool g, .slice a l c])) w' :=
 ⟨_, _, _, _, rfl, hx.cast ex mx, b.out⟩
theorem Cb (h : CZ w (.agg #[.bool g, .slice a l c]) z k) : Zz w g (.slice a l c) z k := by
 obtain ⟨g', a', l', c', e, h⟩ := h.out; simp only [Value.agg.injEq, Array.mk.injEq, List.cons.injEq, Value.bool.injEq, and_true] at e; obtain ⟨rfl, e⟩ := e
 rw [e]; exact h
theorem Fh (h : CI w (.agg #[.bool g, .slice a l c]) z k) : Zi w g (.slice a l c) z k := by
 obtain ⟨g', a', l', c', e, h⟩ := h.out; simp only [Value.agg.injEq, Array.mk.injEq, List.cons.injEq, Value.bool.injEq, and_true] at e; obtain ⟨rfl, e⟩ := e
 rw [e]; exact h
theorem Gq [h1 : CR w (.slice a1 l1 c1) m k1] (b : k1 ≤ 900000) :
  Calls Tryz.prog 164 #[.slice a1 l1 c1] w (Cm w m (k1)) :=
 (Qe7 h1.out b).mono fun _ _ => Cm.of
theorem Qag [h1 : CR w (.slice a1 l1 c1) m k1] [h2 : CR w (.slice a2 l2 c2) n k2] (b : k1 ≤ 900000 ∧ k2 ≤ 900000) :
  Calls Tryz.prog 204 #[.slice a1 l1 c1, .slice a2 l2 c2] w (Cm w (m + n) (max k1 k2 + 1)) :=
 (Qfx h1.out h2.out b.1 b.2).mono fun _ _ => Cm.of
theorem Dd [h1 : CR w (.slice a1 l1 c1) m k1] [h2 : CR w (.slice a2 l2 c2) n k2] (b : k1 ≤ 900000 ∧ k2 ≤ 900000) :
  Calls Tryz.prog 160 #[.slice a1 l1 c1, .slice a2 l2 c2] w (Cm w (m * n) (k1 + k2)) :=
 (Qdo h1.out h2.out b.1 b.2).mono fun _ _ => Cm.of
theorem De [h1 : CR w (.slice a1 l1 c1) m k1] [h2 : CR w (.slice a2 l2 c2) n k2] (b : k1 ≤ 900000 ∧ k2 ≤ 900000) :
  Calls Tryz.prog 169 #[.slice a1 l1 c1, .slice a2 l2 c2] w (Cm w (Nat.gcd m n) (max k1 k2)) :=
 (Qe8 h1.out h2.out b.1 b.2).mono fun _ _ => Cm.of
theorem Dh [h1 : CR w (.slice a1 l1 c1) m k1] (b : k1 ≤ 900000) :
  Calls Tryz.prog 168 #[.slice a1 l1 c1] w (fun e w' => e = .returned (.int .i64 ((nbits m : Nat) : Int)) ∧ w = w') :=
 Qbe h1.out b
theorem Fo [h1 : CR w (.slice a1 l1 c1) m k1] :
  Calls Tryz.prog 192 #[.slice a1 l1 c1] w (fun e w' => e = .returned (Dx m) ∧ w = w') :=
 Ql3 h1.out
theorem Nl [h1 : CR w (.slice a1 l1 c1) m k1] (b : k1 ≤ 900000) :
  Calls Tryz.prog 71 #[.slice a1 l1 c1] w (Cm w m (k1)) :=
 (Qed h1.out b).mono fun _ _ => Cm.of
theorem Sm [h1 : CN w (.slice a1 l1 c1) m k1] (b : k1 ≤ 900000) :
  Calls Tryz.prog 33 #[.slice a1 l1 c1] w (Cm w m (k1)) :=
 (Qih h1.out b).mono fun _ _ => Cm.of
theorem Qd9 [h1 : CN w (.slice a1 l1 c1) m k1] [h2 : CN w (.slice a2 l2 c2) n k2] (b : k1 ≤ 900000 ∧ k2 ≤ 900000) :
  Calls Tryz.prog 144 #[.slice a1 l1 c1, .slice a2 l2 c2] w (Cm w (m + n) (max k1 k2 + 1)) :=
 (Qjm h1.out h2.out b.1 b.2).mono fun _ _ => Cm.of
theorem Km [h1 : CN w (.slice a1 l1 c1) m k1] [h2 : CN w (.slice a2 l2 c2) n k2] (b : k1 ≤ 900000 ∧ k2 ≤ 900000) :
  Calls Tryz.prog 67 #[.slice a1 l1 c1, .slice a2 l2 c2] w (Cm w (m * n) (k1 + k2)) :=
 (Qf6 h1.out h2.out b.1 b.2).mono fun _ _ => Cm.of
theorem L7 [h1 : CN w (.slice a1 l1 c1) m k1] [h2 : CN w (.slice a2 l2 c2) n k2] (b : k1 ≤ 200000 ∧ k2 ≤ 200000) :
  Calls Tryz.prog 104 #[.slice a1 l1 c1, .slice a2 l2 c2] w (Cm w (Nat.gcd m n) (max k1 k2)) :=
 (Qc0 h1.out h2.out b.1 b.2).mono fun _ _ => Cm.of
theorem Je [h1 : CN w (.slice a1 l1 c1) m k1] [h2 : CN w (.slice a2 l2 c2) n k2] :
  Calls Tryz.prog 105 #[.slice a1 l1 c1, .slice a2 l2 c2] w (fun e w' => e = .returned (.int .i64 (Av m n)) ∧ Below w.heap.size w w') :=
 Ww h1.out h2.out
theorem Q6 (b : 0 ≤ x ∧ x < 18446744073709551616) : Calls Tryz.prog 165 #[.int .u64 x] w (Cm w x.toNat 2) := by
 obtain ⟨n, rfl⟩ : ∃ n : Nat, x = n := ⟨x.toNat, by omega⟩
 exact (Qbz (x := n) (by omega)).mono fun _ _ => Cm.of
theorem Ph (b : 0 ≤ x ∧ x < 18446744073709551616) : Calls Tryz.prog 100 #[.int .u64 x] w (Cm w x.natAbs 2) :=
 (Qb4 b.1 b.2).mono fun _ _ => Cm.of
theorem Jf : Calls Tryz.prog 73 #[] w (Cm w 1 1) := Qnh.mono fun _ _ => Cm.of
theorem Ti [h1 : CN w (.slice a1 l1 c1) m k1] [h2 : CN w (.slice a2 l2 c2) n k2] (b : k1 ≤ 900000) (hle : n ≤ m) :
  Calls Tryz.prog 145 #[.slice a1 l1 c1, .slice a2 l2 c2] w (Cm w (m - n) k1) := (Qlx h1.out h2.out b hle).mono fun _ _ => Cm.of
def Lr (w : World) (a : Option Addr) (l c : Nat) (z : Int) (k : Nat) (e : Ending) (w' : World) : Prop := ∃ g, e = .returned (.agg #[.bool g, .slice a l c]) ∧ CZ w' (.agg #[.bool g, .slice a l c]) z k ∧ Below w.heap.size w w'
theorem Ce (h : Calls P f args w (Lr w a l c z k))
  (hK : ∀ w' [Kp1 w w'] g [CZ w' (.agg #[.bool g, .slice a l c]) z k], K (.returned (.agg #[.bool g, .slice a l c])) w') : Calls P f args w K := by
 refine h.mono ?_
 rintro e w' ⟨g, rfl, hn, hb⟩
 exact @hK w' ⟨hb⟩ g hn
def Xx (w : World) (q r k : Nat) (e : Ending) (w' : World) : Prop := ∃ a l c a2 l2 c2, e = .returned (.tuple #[.slice a l c, .slice a2 l2 c2]) ∧ CN w' (.slice a l c) q k ∧ CN w' (.slice a2 l2 c2) r k ∧ Below w.heap.size w w'
theorem K1 [h1 : CN w (.slice a1 l1 c1) m k1] [h2 : CN w (.slice a2 l2 c2) n k2] (b : k1 ≤ 200000 ∧ k2 ≤ 200000) (hn : n ≠ 0) :
  Calls Tryz.prog 106 #[.slice a1 l1 c1, .slice a2 l2 c2] w (Xx w (m / n) (m % n) (k1 + 2)) := by
 refine (O2 h1.out h2.out hn b.1).mono ?_
 rintro e w' ⟨a, l, c, a2, l2, c2, rfl, q, r, hb⟩
 exact ⟨a, l, c, a2, l2, c2, rfl, ⟨q.mono (by omega)⟩, ⟨r.mono (by omega)⟩, hb⟩
theorem M3 (h : Calls P f args w (Xx w q r k))
  (hK : ∀ w' [Kp1 w w'] a l c a2 l2 c2 [CN w' (.slice a l c) q k] [CN w' (.slice a2 l2 c2) r k], K (.returned (.tuple #[.slice a l c, .slice a2 l2 c2])) w') : Calls P f args w K := by
 refine h.mono ?_
 rintro e w' ⟨a, l, c, a2, l2, c2, rfl, h1, h2, hb⟩
 exact @hK w' ⟨hb⟩ a l c a2 l2 c2 h1 h2
def Zp (w : World) (q r k : Nat) (ok : Bool) (e : Ending) (w' : World) : Prop := ∃ a l c a2 l2 c2, e = .returned (.tuple #[.slice a l c, .slice a2 l2 c2, .bool ok]) ∧ CN w' (.slice a l c) q k ∧ CN w' (.slice a2 l2 c2) r k ∧ Below w.heap.size w w'
theorem I2 [h1 : CR w (.slice a1 l1 c1) m k1] [h2 : CR w (.slice a2 l2 c2) n k2] (b : k1 ≤ 900000) :
  Calls Tryz.prog 190 #[.slice a1 l1 c1, .slice a2 l2 c2] w (Zp w (m / n) (if n = 0 then 0 else m % n) k1 (decide (n ≠ 0))) := by
 refine (Qmp h1.out h2.out b).mono ?_
 rintro e w' ⟨a, l, c, a2, l2, c2, rfl, q, r, hb⟩
 exact ⟨a, l, c, a2, l2, c2, rfl, ⟨q⟩, ⟨r⟩, hb⟩
theorem I3 {ok : Bool} (h : Calls P f args w (Zp w q r k ok))
  (hK : ∀ w' [Kp1 w w'] a l c a2 l2 c2 [CN w' (.slice a l c) q k] [CN w' (.slice a2 l2 c2) r k], K (.returned (.tuple #[.slice a l c, .slice a2 l2 c2, .bool ok])) w') : Calls P f args w K := by
 refine h.mono ?_
 rintro e w' ⟨a, l, c, a2, l2, c2, rfl, h1, h2, hb⟩
 exact @hK w' ⟨hb⟩ a l c a2 l2 c2 h1 h2
def Vg (w : World) (n : Nat) (v : Bool) (k : Nat) (e : Ending) (w' : World) : Prop := ∃ a l c, e = .returned (.tuple #[.slice a l c, .bool v]) ∧ CN w' (.slice a l c) n k ∧ Below w.heap.size w w'
theorem Us {v : Bool} (h : Calls P f args w (Vg w n v k))
  (hK : ∀ w' [Kp1 w w'] a l c [CN w' (.slice a l c) n k], K (.returned (.tuple #[.slice a l c, .bool v])) w') : Calls P f args w K := by
 refine h.mono ?_
 rintro e w' ⟨a, l, c, rfl, h1, hb⟩
 exact @hK w' ⟨hb⟩ a l c h1
theorem Ss [h1 : CR w (.slice a1 l1 c1) m k1] [h2 : CR w (.slice a2 l2 c2) n k2] (b : k1 ≤ 900000) :
  Calls Tryz.prog 205 #[.slice a1 l1 c1, .slice a2 l2 c2] w (Vg w (m - n) (decide (n ≤ m)) k1) :=
 (Qfw h1.out h2.out b).mono fun _ _ ⟨a, l, c, e, h, hb⟩ => ⟨a, l, c, e, ⟨h⟩, hb⟩
theorem Lr.fin [b : Kp w w'] [h : CN w' (.slice a l c) n k] (e : g' = (g && decide (0 < l))) : Lr w a l c (sgn g n) k (.returned (.agg #[.bool g', .slice a l c])) w' :=
 ⟨g', rfl, ⟨⟨_, _, _, _, rfl, by subst e; exact Zz.mk' h.out⟩⟩, b.out⟩
theorem CZ.mkB [h : CN W (.slice a l c) n k] (e : g' = (g && decide (0 < l))) : CZ W (.agg #[.bool g', .slice a l c]) (sgn g n) k := ⟨⟨_, _, _, _, rfl, by subst e; exact Zz.mk' h.out⟩⟩
theorem CZ.mkA [h : CN W (.slice a l c) n k] (en : n = x.natAbs) (e : g = decide (x < 0)) : CZ W (.agg #[.bool g, .slice a l c]) x k := ⟨⟨_, _, _, _, rfl, e, by subst en; exact h.out⟩⟩
end
end Go.Proofs.YtpnpnlmlamfpmaaGreatDoor
