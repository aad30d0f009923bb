/-
  Texts of this claim, joined: LawRC.
-/
import Derived.Test.YtdlnoeegboapkaaGreatDoorCR
import Derived.Test.YtdlnoeegboapkaaGreatDoorCW
/- The law RingComputes: its walk. printed by a small program (mklawr3.py). -/
namespace Go.Proofs.YtdlnoeegboapkaaGreatDoor
open Go.RowKit
set_option maxRecDepth 100000
set_option maxHeartbeats 40000000
set_option synthInstance.maxSize 100000
set_option synthInstance.maxHeartbeats 1000000
set_option linter.unusedVariables false

theorem ringComputes_walk (a0 : Option Addr) (len0 cap0 : Nat) (z0 : List Int) (w : World) (w0 : IsRow .i64 w a0 len0 cap0 z0) (hL : laidMetH Tryz.prog laid9 w) :
    Calls Tryz.prog 6 #[.slice a0 len0 cap0] w fun e w' => e = .returned (.bool true) ∧ Below w.heap.size w w' := by
  obtain ⟨aI, aR, aL, sI, sR, sL⟩ := sents9 hL
  clear hL sI sL
  go_enter Tryz.func6, Tryz.ntmps6
  go_wp2_with fail
  with_reducible refine Calls.cNew (newW w0) ?_
  intro W0 _ _
  go_wp2_with fail
  with_reducible refine Calls.cRing tapeRingC ?_
  intro W1 _ _ a1 c1 V L _ _ _ h1
  have hR := Lib.hid h1.out.1
  have hV0 : 0 < V.length := by rw [PsQ.len (W := W1) (V := V)]; exact h1.out.1.pos
  have hV6 : V.length ≤ 6 := h1.out.2.2
  have hE := Lib.hid h1.out.1.edge
  go_wp2_with fail
  with_reducible refine Calls.cPsARet (toPsC (V := V) (by omega) (by omega)) ?_
  intro W2 _ xa xc X _ xp
  have hX6 : X.length ≤ 6 := by rw [xp.len, ← PsQ.len (W := W1) (V := V)]; exact hV6
  go_wp2_with fail
  with_reducible refine Calls.cFsHEr (edgesOk (V := X) (by omega) (by omega) hR.out) ?_
  intro W3 _ ea ec E _ ep
  have hE6 : E.length ≤ 1000 := by rw [ep.len, edgesL, List.length_map, List.length_range, ← xp.len]; omega
  go_wp2_with fail
  with_reducible refine Calls.cAEr (areaOk (V := X) (by omega) (by omega) hR.out) ?_
  intros
  go_wp2_with fail
  with_reducible refine Calls.cPsAEr (rReverseC (V := X) (by omega) (by omega) hR.out) ?_
  intro W5 _ ra rc RV _ rp
  have hRV6 : RV.length ≤ 6 := by rw [rp.len, revL_len, ← xp.len]; exact hX6
  go_wp2_with fail
  refine rgn [] [] fun hHeld => ?_
  refine st 0 fun K hK => ?_
  go_simp
  (with_reducible refine Calls.cE known09C ?_); intros
  refine hd hK ?_
  clear hHeld hK K
  intro hHeld
  refine tk 1 hHeld ?_
  refine tk 2 hHeld ?_
  refine tk 3 hHeld ?_
  refine tk 4 hHeld ?_
  refine tk 5 hHeld ?_
  refine tk 6 hHeld ?_
  refine tk 7 hHeld ?_
  refine tk 8 hHeld ?_
  refine tk 9 hHeld ?_
  refine tk 10 hHeld ?_
  refine tk 11 hHeld ?_
  refine tk 12 hHeld ?_
  refine tk 13 hHeld ?_
  refine tk 14 hHeld ?_
  refine tk 15 hHeld ?_
  refine st 16 fun K hK => ?_
  go_simp
  (with_reducible refine Calls.cFsKRet (refEdgesC (V := V) (by omega) (by omega) hE.out) ?_); intro W6 _ fa fc FK _ fp; have hFK : FK.length ≤ 1000 := (by rw [fp.len, edgesL, List.length_map, List.length_range, ← PsQ.len (W := W1) (V := V)]; omega)
  refine hd hK ?_
  clear hHeld hK K
  intro hHeld
  refine st 17 fun K hK => ?_
  go_simp
  (with_reducible refine Calls.cFsHRet (refWriteFsC (V := FK) (by omega) (by omega)) ?_); intro W7 _ ha hc H _ hp
  refine hd hK ?_
  clear hHeld hK K
  intro hHeld
  refine st 18 fun K hK => ?_
  go_simp
  (with_reducible refine Calls.cE (sameFsC (V := E) (V2 := H) (by omega)) ?_); intros
  refine hd hK ?_
  clear hHeld hK K
  intro hHeld
  refine tk 19 hHeld ?_
  refine tk 20 hHeld ?_
  refine tk 21 hHeld ?_
  refine tk 22 hHeld ?_
  refine st 23 fun K hK => ?_
  go_simp
  (with_reducible refine Calls.cQ (refAreaC (V := V) (by omega) (by omega)) ?_); intros
  refine hd hK ?_
  clear hHeld hK K
  intro hHeld
  refine st 24 fun K hK => ?_
  go_simp
  (with_reducible refine Calls.cA (toQC (by omega)) ?_); intros
  refine hd hK ?_
  clear hHeld hK K
  intro hHeld
  refine st 25 fun K hK => ?_
  go_simp
  (with_reducible refine Calls.cE (sameQC rfl) ?_); intros
  refine hd hK ?_
  clear hHeld hK K
  intro hHeld
  refine tk 26 hHeld ?_
  refine tk 27 hHeld ?_
  refine tk 28 hHeld ?_
  refine tk 29 hHeld ?_
  refine st 30 fun K hK => ?_
  go_simp
  (with_reducible refine Calls.cPsQRet (refReverseC (V := V) hV0 (by omega)) ?_); intro W8 _ va vc VR _ vp; have hVR : VR.length ≤ 6 := (by rw [vp.len, revL_len, ← PsQ.len (W := W1) (V := V)]; exact hV6)
  refine hd hK ?_
  clear hHeld hK K
  intro hHeld
  refine st 31 fun K hK => ?_
  go_simp
  (with_reducible refine Calls.cPsARet (toPsC (V := VR) (by omega) (by omega)) ?_); intro W9 _ ya yc Y _ yp
  refine hd hK ?_
  clear hHeld hK K
  intro hHeld
  refine st 32 fun K hK => ?_
  go_simp
  (with_reducible refine Calls.cE (samePsC (V := RV) (V2 := Y) rfl (by omega)) ?_); intros
  refine hd hK ?_
  clear hHeld hK K
  intro hHeld
  refine tk 33 hHeld ?_
  refine tk 34 hHeld ?_
  refine dn ?_
  clear hHeld
  go_wp2
  go_ret
  first | exact E.fin rfl | exact ⟨rfl, (inferInstance : Kp w _).out⟩
end Go.Proofs.YtdlnoeegboapkaaGreatDoor
