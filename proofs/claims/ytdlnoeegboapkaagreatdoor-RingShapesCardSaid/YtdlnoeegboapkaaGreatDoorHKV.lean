/-
  Texts of this claim, joined: LawRS.
-/
import Derived.Test.YtdlnoeegboapkaaGreatDoorHKB
import Derived.Test.YtdlnoeegboapkaaGreatDoorHKT
import Derived.Test.YtdlnoeegboapkaaGreatDoorHKQ
import Derived.Test.YtdlnoeegboapkaaGreatDoorHKU
import Derived.BigQuiet
namespace Go.Proofs.YtdlnoeegboapkaaGreatDoor
open Go.RowKit
set_option linter.unusedVariables false
set_option maxHeartbeats 40000000
set_option maxRecDepth 100000
set_option synthInstance.maxHeartbeats 1000000
set_option synthInstance.maxSize 100000
section
theorem ne_tapeA {W w0 : World} {g t : Nat} {V : List AV} (h : At W g (rowA V) w0) (hV : 0 < V.length) (c : Ct W t) : g ≠ t := by
  rintro rfl
  have h1 := cell_az0 (W := W) (g := g) (V := V) hV
  obtain ⟨a, m, c2, at_, zs, hb, _⟩ := c.out
  have h2 : W.cell? ⟨g, 0, none⟩ = some (.slice a m c2) := by simp [World.cell?, hb]
  rw [h1] at h2
  cases h2
theorem Sl.tpm {W W2 w0 : World} {v : Value} {n q : Nat} {xs : List Value} [k : Tp1 W W2 q] (h : Sl W v n xs w0) (o : ∀ g, v.ownBlock = some g → g ≠ q) : Sl W2 v n xs w0 := h.keep k.gb.size
  (fun g e => k.gb.block _ (h.ltW g e) (fun x => by injection x with x; exact o g e x))
theorem cellT {W w0 : World} {g q : Nat} {Z : List Int} (h : At W g (rowI Z) w0) (hq : q < Z.length) : W.cell? ⟨g, q, none⟩ = some (.int .i64 Z[q]) :=
  h.out q _ (by rw [rowI, List.getElem?_map, List.getElem?_eq_getElem hq]; rfl)
theorem em_b (P : Prop) : ∃ v : Bool, P ↔ v = true := by
  by_cases h : P
  · exact ⟨true, fun _ => rfl, fun _ => h⟩
  · exact ⟨false, fun e => absurd e h, fun e => by cases e⟩
theorem ringShapes_walk (a0 : Option Addr) (len0 cap0 : Nat) (z0 : List Int) (w : World) (w0 : IsRow .i64 w a0 len0 cap0 z0) (hL : laidMetH Tryz.prog laid9 w) :
    Calls Tryz.prog 7 #[.slice a0 len0 cap0] w fun e w' => e = .returned (.bool true) ∧ Below w.heap.size w w' := by
  obtain ⟨aI, aR, aL, sI, sR, sL⟩ := sents9 hL; clear hL sI sL; go_enter Tryz.func7, Tryz.ntmps7; go_wp2_with fail
  with_reducible refine Calls.cNew (newW w0) ?_
  intro W0 _ _; go_wp2_with fail
  with_reducible refine Calls.cRing tapeRingC ?_
  intro W1 _ _ a1 c1 V L _ _ _ h1
  have hV6 : V.length ≤ 6 := h1.out.2.2
  have hV0 : 0 < V.length := by
    have h2 := h1.out.1.pos
    have h3 : PsQ W1 V L 4 := inferInstance
    have h4 := h3.len
    omega
  obtain ⟨gx, rfl, hXA⟩ := (inferInstance : Sl W1 (.slice a1 V.length c1) V.length (rowA V) W1).form hV0
  have hne := ne_tapeA hXA hV0 (t := w.heap.size) inferInstance
  go_upto_if 19 with (go_at_call 26; (with_reducible refine Calls.cNext (nextC (by omega)) ?_); intro W3 _ _ v v1 v2)
  go_cut [4] from 20 to 21 (fun s4 wx => ∃ (a : Option Addr) (c : Nat) (U : List AV) (N : List (Rat × Rat)), s4 = .slice a U.length c ∧ Sl wx (.slice a U.length c) U.length (rowA U) wx ∧ PsQ wx U N 4 ∧ Hid (RingOK N ∧ IntL N ∧ U.length ≤ 6) ∧ Ct wx w.heap.size ∧ Gb W3 wx w.heap.size)
  case first =>
    by_cases hv : v = 0
    · subst hv; go_wp2_with fail
      with_reducible refine Calls.cRing tapeConvexC ?_
      intro W4 _ _ a2 c2 V2 M _ _ _ h2
      have hV26 : V2.length ≤ 6 := h2.out.2.2
      go_wp2_with fail; go_meet; exact ⟨a2, c2, V2, M, rfl, Sl.here inferInstance, inferInstance, Lib.hid ⟨h2.out.1, h2.out.2.1, hV26⟩, inferInstance, inferInstance⟩
    · have hv1 : (v == 0) = false := beq_false_of_ne hv
      go_wp2_with fail; go_meet
      have xs3 : Sl W3 (.slice (some ⟨gx, 0, none⟩) V.length c1) V.length (rowA V) W1 := Sl.tpm (q := w.heap.size) (inferInstance : Sl W1 (.slice (some ⟨gx, 0, none⟩) V.length c1) V.length (rowA V) W1) (fun g e => by cases e; exact hne)
      exact ⟨_, c1, V, L, rfl, xs3.here, inferInstance, Lib.hid ⟨h1.out.1, h1.out.2.1, hV6⟩, inferInstance, inferInstance⟩
  case rest =>
    obtain ⟨a3, c3, U, N, rfl, j1, j2, j3, j4, j5⟩ := hcut
    have kt : Tp1 W3 wc w.heap.size := ⟨j5.out, Ct.out⟩
    have hR := Lib.hid j3.out.1; have hI := Lib.hid j3.out.2.1
    have hU6 : U.length ≤ 6 := j3.out.2.2
    have hl3 := Lib.hid j3.out.1.len3
    have hU0 : 0 < U.length := by have := j2.len; have := hl3.out; omega
    have hUN := Lib.hid j2.len; clear j5 j3 h1 v1 v2 hV6 hne hXA; obtain ⟨v1, hv1⟩ := em_b (SimpleP N); obtain ⟨v2, hv2⟩ := em_b (CvxL N); have H1 := Lib.hid hv1; have H2 := Lib.hid hv2; clear hv1 hv2; go_wp2_with fail
    with_reducible refine Calls.cPsARet (toPsC (V := U) (by omega) (by omega)) ?_
    intro W4 _ xa xc X _ xp
    have hX6 : X.length ≤ 6 := by rw [xp.len, ← hUN.out]; exact hU6
    go_wp2_with fail
    with_reducible refine Calls.cE (rSimpleC (V := X) (by omega) (by omega) hR.out hI.out H1) ?_
    intro W5 _; go_wp2_with fail
    with_reducible refine Calls.cPsARet (toPsC (V := U) (by omega) (by omega)) ?_
    intro W6 _ ya yc Y _ yp
    have hY6 : Y.length ≤ 6 := by rw [yp.len, ← hUN.out]; exact hU6
    go_wp2_with fail
    with_reducible refine Calls.cE (rConvexC (V := Y) (by omega) (by omega) hR.out H2) ?_
    intro W7 _; go_wp2_with fail
    with_reducible refine Calls.cPsARet (toPsC (V := U) (by omega) (by omega)) ?_
    intro W8 _ za zc Z _ zp
    have hZ6 : Z.length ≤ 6 := by rw [zp.len, ← hUN.out]; exact hU6
    go_wp2_with fail
    with_reducible refine Calls.cIsEr (rTurnsC (V := Z) (by omega) (by omega) hR.out) ?_
    intro W9 _ ta tc tsl; clear xp yp zp
    have htl : Hid ((turnsL N).length = N.length) := Lib.hid (by simp [turnsL])
    have hT0 : 0 < (turnsL N).length := by rw [htl.out]; have := hl3.out; omega
    have hT6 : (turnsL N).length ≤ 6 := by rw [htl.out, ← hUN.out]; exact hU6
    obtain ⟨tg, rfl, hTA⟩ := tsl.form hT0
    have b1 : (v1 != v1) = false := bne_self_eq_false v1
    have b2 : (v2 != v2) = false := bne_self_eq_false v2
    go_wp2_with (first
      | (go_at_call 47; (with_reducible refine Calls.cE (refSimpleC (V := U) (k := 4) (by omega) (by omega) hR.out hI.out H1) ?_); intro W10 _)
      | (go_at_call 48; (with_reducible refine Calls.cE (refConvexC (V := U) (k := 4) (by omega) (by omega) hU0 H2) ?_); intro W11 _)
      | (go_at_call 49; (with_reducible refine Calls.cIs (refTurnsC (V := U) (k := 4) (by omega) (by omega) hU0) ?_); intro W12 _ ra rc rsl))
    obtain ⟨rg, rfl, hRA⟩ := rsl.form hT0; clear htl tsl rsl
    generalize turnsL N = TL at hT0 hT6 hTA hRA ⊢
    go_wp2_with fail
    go_loopw [71] (fun i wr => ∃ q : Nat, i = .int .i64 (q : Int) ∧ q ≤ TL.length ∧ Kp W12 wr) (fun i _ => TL.length - (intOf i).toNat)
    case atStart => exact ⟨0, rfl, by omega, inferInstance⟩
    case round =>
      obtain ⟨q, rfl, hq, i2⟩ := hrel; have kq := Kp1.mk i2.out
      by_cases hlt : q < TL.length
      · have hlt' : (q : Int) < TL.length := by omega
        have ew : IntKind.i64.wrap ((q : Int) + 1) = (q : Int) + 1 := wr_in (by omega) (by omega)
        obtain ⟨z, hz⟩ : ∃ z, TL[q] = z := ⟨_, rfl⟩
        have c1 : wr.cell? ⟨tg, q, none⟩ = some (.int .i64 z) := by rw [← hz]; exact cellT (Z := TL) (inferInstance : At wr tg (rowI TL) W9) hlt
        have c2 : wr.cell? ⟨rg, q, none⟩ = some (.int .i64 z) := by rw [← hz]; exact cellT (Z := TL) (inferInstance : At wr rg (rowI TL) W12) hlt
        clear hz; go_wp2_with fail
        go_quiet (fail)
        go_wp2_with fail
        go_roundw
        case rel => exact ⟨q + 1, by go_num, by omega, inferInstance⟩
        case measure => simp [intOf]; omega
      · obtain rfl : q = TL.length := by omega
        go_wp2_with (go_at_call 24; (with_reducible refine Calls.cE known09C ?_); intros)
        go_ret
        first | exact E.fin rfl | exact ⟨rfl, (inferInstance : Kp w _).out⟩
end
end Go.Proofs.YtdlnoeegboapkaaGreatDoor
