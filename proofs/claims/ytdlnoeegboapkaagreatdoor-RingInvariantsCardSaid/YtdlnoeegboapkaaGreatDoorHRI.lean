/-
  Texts of this claim, joined: LawRI.
-/
import Derived.Test.YtdlnoeegboapkaaGreatDoorCQ
import Derived.Test.YtdlnoeegboapkaaGreatDoorCR
import Derived.Test.YtdlnoeegboapkaaGreatDoorHSI
import Derived.Test.YtdlnoeegboapkaaGreatDoorHCV
/- The law RingInvariants: its walk. printed by a small program (mklawr4.py). -/
namespace Go.Proofs.YtdlnoeegboapkaaGreatDoor
open Go.RowKit
set_option maxRecDepth 100000
set_option maxHeartbeats 40000000
set_option synthInstance.maxSize 100000
set_option synthInstance.maxHeartbeats 1000000
set_option linter.unusedVariables false

theorem turns_one {L : List (Rat × Rat)} (h : CvxL L) (h3 : 3 ≤ L.length) : rowI (turnsL L) = List.replicate L.length (.int .i64 1) := by
  apply List.ext_getElem
  · simp [rowI, turnsL]
  · intro i h1 h2
    have hi : i < L.length := by simpa using h2
    have ht := or_pos.2 (cvx_turn h h3 hi)
    have hb := isgn_bd (det3 (pg L ((i + L.length - 1) % L.length)) (pg L i) (pg L ((i + 1) % L.length))).num
    rw [← det3_or] at hb
    have e : turnA L i = 1 := by unfold turnA; omega
    simp [rowI, turnsL, e]
theorem At.ne_tape {W w0 : World} {g t : Nat} {V : List AV} (h : At W g (rowA V) w0) (hV : 0 < V.length) (c : Ct W t) : g ≠ t := by
  rintro rfl
  have h1 := cell_az0 (W := W) (g := g) (V := V) hV
  obtain ⟨a, m, c2, at_, zs, hb, _⟩ := c.out
  have h2 : W.cell? ⟨g, 0, none⟩ = some (.slice a m c2) := by simp [World.cell?, hb]
  rw [h1] at h2
  cases h2
theorem Sl.tpn {W W2 w0 : World} {v : Value} {n q : Nat} {xs : List Value} [k : Tp1 W W2 q] (h : Sl W v n xs w0) (o : ∀ g, v.ownBlock = some g → g ≠ q) : Sl W2 v n xs w0 := h.keep k.gb.size
  (fun g e => k.gb.block _ (h.ltW g e) (fun x => by injection x with x; exact o g e x))
theorem ringInvariants_walk (a0 : Option Addr) (len0 cap0 : Nat) (z0 : List Int) (w : World) (w0 : IsRow .i64 w a0 len0 cap0 z0) (hL : laidMetH Tryz.prog laid9 w) :
    Calls Tryz.prog 9 #[.slice a0 len0 cap0] w fun e w' => e = .returned (.bool true) ∧ Below w.heap.size w w' := by
  obtain ⟨aI, aR, aL, sI, sR, sL⟩ := sents9 hL
  clear hL sI sL
  go_enter Tryz.func9, Tryz.ntmps9
  go_wp2_with fail
  with_reducible refine Calls.cNew (newW w0) ?_
  intro W0 _ _
  go_wp2_with fail
  with_reducible refine Calls.cRing tapeRingC ?_
  intro W1 _ _ a1 c1 V L _ _ _ h1
  have hV6 : V.length ≤ 6 := h1.out.2.2
  go_wp2_with fail
  with_reducible refine Calls.cPsARet (toPsC (V := V) (by omega) (by omega)) ?_
  intro W2 _ xa xc X _ xp
  have hX6 : X.length ≤ 6 := by rw [xp.len, ← PsQ.len (W := W1) (V := V)]; exact hV6
  have hX0 : 0 < X.length := by rw [xp.len]; exact h1.out.1.pos
  obtain ⟨gx, rfl, hXA⟩ := (inferInstance : Sl W2 (.slice xa X.length xc) X.length (rowA X) W2).form hX0
  have hne := hXA.ne_tape hX0 (t := w.heap.size) inferInstance
  go_upto_if 32 with (go_at_call 26; (with_reducible refine Calls.cNext (nextC (by omega)) ?_); intro W3 _ _ v v1 v2)
  go_cut [4] from 33 to 35 (fun s4 wx => ∃ (a : Option Addr) (c : Nat) (U : List AV) (N : List (Rat × Rat)), s4 = .slice a U.length c ∧ Sl wx (.slice a U.length c) U.length (rowA U) wx ∧ PsA wx U N 5 ∧ Hid (RingOK N ∧ IntL N ∧ U.length ≤ 6) ∧ Ct wx w.heap.size ∧ Gb W3 wx w.heap.size)
  case first =>
    by_cases hv : v = 0
    · subst hv
      go_wp2_with fail
      with_reducible refine Calls.cRing tapeConvexC ?_
      intro W4 _ _ a2 c2 V2 M _ _ _ h2
      have hV26 : V2.length ≤ 6 := h2.out.2.2
      go_wp2_with fail
      with_reducible refine Calls.cPsARet (toPsC (V := V2) (by omega) (by omega)) ?_
      intro W5 _ ya yc Y _ yp
      go_wp2_with fail
      go_meet
      exact ⟨ya, yc, Y, M, rfl, Sl.here inferInstance, inferInstance, Lib.hid ⟨h2.out.1, h2.out.2.1, by rw [yp.len, ← PsQ.len (W := W4) (V := V2)]; exact hV26⟩, inferInstance, inferInstance⟩
    · have hv1 : (v == 0) = false := beq_false_of_ne hv
      go_wp2_with fail
      go_meet
      have xs3 : Sl W3 (.slice (some ⟨gx, 0, none⟩) X.length xc) X.length (rowA X) W2 := Sl.tpn (q := w.heap.size) (inferInstance : Sl W2 (.slice (some ⟨gx, 0, none⟩) X.length xc) X.length (rowA X) W2) (fun g e => by cases e; exact hne)
      exact ⟨_, xc, X, L, rfl, xs3.here, inferInstance, Lib.hid ⟨h1.out.1, h1.out.2.1, hX6⟩, inferInstance, inferInstance⟩
  case rest =>
    obtain ⟨a3, c3, U, N, rfl, j1, j2, j3, j4, j5⟩ := hcut
    have kt : Tp1 W3 wc w.heap.size := ⟨j5.out, Ct.out⟩
    have hR := Lib.hid j3.out.1
    have hI := Lib.hid j3.out.2.1
    have hU6 : U.length ≤ 6 := j3.out.2.2
    have hl3 := Lib.hid j3.out.1.len3
    clear j5 j3 h1 v1 v2 hX6 hV6 xp
    go_wp2_with fail
    with_reducible refine Calls.cPsAEr (rReverseC (V := U) (by omega) (by omega) hR.out) ?_
    intro W6 _ ra rc RV _ rp
    have hRV6 : RV.length ≤ 6 := by rw [rp.len, revL_len, ← j2.len]; exact hU6
    go_wp2_with fail
    with_reducible refine Calls.cPsAEr (rReverseC (V := RV) (by omega) (by omega) hR.out.rev) ?_
    intro W7 _ ba bc B _ bp
    have hB6 : B.length ≤ 6 := by rw [bp.len, revL_revL, ← j2.len]; exact hU6
    go_wp2_with fail
    with_reducible refine Calls.cPsAEr (rCanonC (V := U) (by omega) (by omega) hR.out) ?_
    intro W8 _ ca cc CV _ cp
    have hC6 : CV.length ≤ 6 := by rw [cp.len, canonL, bst_len, ← j2.len]; exact hU6
    go_wp2_with fail
    with_reducible refine Calls.cAEr (areaOk (V := U) (by omega) (by omega) hR.out) ?_
    intro W9 _ g1 a1 l1 c1 aa1 ll1 cc1 _
    go_wp2_with (go_at_call 30; (with_reducible refine Calls.cE (samePsC (V := B) (V2 := U) (revL_revL N) (by omega)) ?_); intros)
    with_reducible refine Calls.cAEr (areaOk (V := RV) (by omega) (by omega) hR.out.rev) ?_
    intro W10 _ g2 a2 l2 c2 aa2 ll2 cc2 _
    go_wp2_with fail
    with_reducible refine Calls.cAEr (areaOk (V := CV) (by omega) (by omega) hR.out.canon) ?_
    intro W11 _ g3 a3 l3 c3 aa3 ll3 cc3 _
    have HS : Hid (isgn (areaL N + areaL (revL N)).num = 0) := Lib.hid (by rw [area_rev, isg_zero]; grind)
    have HE := Lib.hid (area_canon N).symm
    go_upto_region 13 with fail
    go_cut [106] from 86 to 105 (fun t wx => t = .bool false ∧ Kp W11 wx)
    case first =>
      refine rgn [] [] fun hHeld => ?_
      refine tk 0 hHeld ?_
      refine tk 1 hHeld ?_
      refine tk 2 hHeld ?_
      refine tk 3 hHeld ?_
      refine tk 4 hHeld ?_
      refine tk 5 hHeld ?_
      refine tk 6 hHeld ?_
      refine tk 7 hHeld ?_
      refine tk 9 hHeld ?_
      refine st 8 fun K hK => ?_
      go_simp
      (with_reducible refine Calls.cQ (refQC (by omega)) ?_); intros
      refine hd hK ?_
      clear hHeld hK K
      intro hHeld
      refine st 10 fun K hK => ?_
      go_simp
      (with_reducible refine Calls.cQ (refQC (by omega)) ?_); intros
      refine hd hK ?_
      clear hHeld hK K
      intro hHeld
      refine st 11 fun K hK => ?_
      go_simp
      (with_reducible refine Calls.cQ (numPlusC (by omega)) ?_); intros
      refine hd hK ?_
      clear hHeld hK K
      intro hHeld
      refine st 12 fun K hK => ?_
      go_simp
      (with_reducible refine Calls.cE (numSW HS) ?_); intros
      refine hd hK ?_
      clear hHeld hK K
      intro hHeld
      refine tk 13 hHeld ?_
      refine tk 14 hHeld ?_
      refine tk 15 hHeld ?_
      refine tk 16 hHeld ?_
      refine tk 17 hHeld ?_
      refine st 18 fun K hK => ?_
      go_simp
      (with_reducible refine Calls.cE (sameQC HE.out) ?_); intros
      refine hd hK ?_
      clear hHeld hK K
      intro hHeld
      refine tk 19 hHeld ?_
      refine tk 20 hHeld ?_
      refine dn ?_
      clear hHeld
      go_wp2_with fail
      go_meet
      exact ⟨rfl, inferInstance⟩
    case rest =>
      obtain ⟨rfl, j5⟩ := hcut
      have kz := Kp1.mk j5.out
      clear rp bp cp HS HE
      by_cases hC : CvxL N
      · have HC : Hid (CvxL N) := Lib.hid hC
        have HM : Hid (SimpleP N) := Lib.hid (cvx_simple hR.out hC hl3.out)
        have HA : Hid (isgn (areaL N).num = 1) := Lib.hid (isg_pos.2 (cvx_area hC hl3.out))
        have HT := Lib.hid (turns_one hC hl3.out)
        have htl : (turnsL N).length = N.length := by simp [turnsL]
        clear hC
        go_wp2_with fail
        with_reducible refine Calls.cE (rConvexC (V := U) (v := true) (by omega) (by omega) hR.out (Lib.hid ⟨fun _ => rfl, fun _ => HC.out⟩)) ?_
        intros
        go_wp2_with fail
        with_reducible refine Calls.cE (rSimpleC (V := U) (v := true) (by omega) (by omega) hR.out hI.out (Lib.hid ⟨fun _ => rfl, fun _ => HM.out⟩)) ?_
        intros
        go_wp2_with fail
        with_reducible refine Calls.cIsEr (rTurnsC (V := U) (by omega) (by omega) hR.out) ?_
        intro W12 _ ta tc tsl
        rw [htl, HT.out] at tsl
        rw [htl]
        have hT0 : 0 < N.length := by have := hl3.out; omega
        have hT6 : N.length ≤ 6 := by rw [← j2.len]; exact hU6
        obtain ⟨tg, rfl, hTA⟩ := tsl.form hT0
        clear HT htl
        generalize hn : N.length = tn at *
        clear hn
        go_wp2_with (first
          | (go_at_call 56; (with_reducible refine Calls.cQ (refQC (by omega)) ?_); intros)
          | (go_at_call 54; (with_reducible refine Calls.cE (numSW HA) ?_); intros))
        go_loopw [145] (fun i wr => ∃ q : Nat, i = .int .i64 (q : Int) ∧ q ≤ tn ∧ Kp W12 wr) (fun i _ => tn - (intOf i).toNat)
        case atStart => exact ⟨0, rfl, by omega, inferInstance⟩
        case round =>
          obtain ⟨q, rfl, hq, i2⟩ := hrel
          have kq := Kp1.mk i2.out
          by_cases hlt : q < tn
          · have hlt' : (q : Int) < tn := by omega
            have ew : IntKind.i64.wrap ((q : Int) + 1) = (q : Int) + 1 := wr_in (by omega) (by omega)
            have hA2 : At wr tg (List.replicate tn (.int .i64 1)) W12 := inferInstance
            have hc2 : wr.cell? ⟨tg, q, none⟩ = some (.int .i64 1) := hA2.out q _ (by rw [List.getElem?_replicate, if_pos hlt])
            go_wp2_with fail
            go_roundw
            case rel => exact ⟨q + 1, by go_num, by omega, inferInstance⟩
            case measure => simp [intOf]; omega
          · obtain rfl : q = tn := by omega
            go_wp2_with (go_at_call 24; (with_reducible refine Calls.cE known09C ?_); intros)
            go_ret
            first | exact E.fin rfl | exact ⟨rfl, (inferInstance : Kp w _).out⟩
      · have HC : Hid (¬ CvxL N) := Lib.hid hC
        clear hC
        go_wp2_with fail
        with_reducible refine Calls.cE (rConvexC (V := U) (v := false) (by omega) (by omega) hR.out (Lib.hid ⟨fun h => absurd h HC.out, fun e => by cases e⟩)) ?_
        intros
        go_wp2_with (go_at_call 24; (with_reducible refine Calls.cE known09C ?_); intros)
        go_ret
        first | exact E.fin rfl | exact ⟨rfl, (inferInstance : Kp w _).out⟩
end Go.Proofs.YtdlnoeegboapkaaGreatDoor
