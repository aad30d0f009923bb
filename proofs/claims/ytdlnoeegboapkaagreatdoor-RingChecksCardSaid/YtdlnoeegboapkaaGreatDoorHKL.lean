/-
  Texts of this claim, joined: LawRK.
-/
import Derived.Test.YtdlnoeegboapkaaGreatDoorHKI
import Derived.Test.YtdlnoeegboapkaaGreatDoorHKF
import Derived.Test.YtdlnoeegboapkaaGreatDoorHKG
import Derived.Test.YtdlnoeegboapkaaGreatDoorHKH
import Derived.Test.YtdlnoeegboapkaaGreatDoorHKK
/- The law RingChecks: its walk. printed by a small program (mklawr5.py). -/
namespace Go.Proofs.YtdlnoeegboapkaaGreatDoor
open Go.RowKit
set_option maxRecDepth 100000
set_option maxHeartbeats 40000000
set_option synthInstance.maxSize 100000
set_option synthInstance.maxHeartbeats 1000000
set_option linter.unusedVariables false

theorem Kp.tr {w W W2 : World} (h : Kp w W) (k : Kp W W2) : Kp w W2 := ⟨h.out.trans (k.out.mono h.out.size)⟩
theorem ringChecksErr {w w0 w1 : World} {a : Option Addr} {n c : Nat} {V : List AV} {D : Nat → RD} [hs : SlO w (.slice a n c) V.length (rowA V) w0] [hp : PsL w V D] (hV : V.length ≤ 10) (hS : ∀ i, i < V.length → smlP D 4 i) {aX aR : Addr} [hR0 : Snt w 3 aR w1] {v : Int} (hv : v = 2 ∨ v = 3)
    (hE : ∀ W, Kp w W → Calls Tryz.prog 77 #[.slice a n c] W (RErr W (.slice none 0 0) aX))
    (hC : ∀ W, Kp w W → Calls Tryz.prog 51 #[.slice a n c] W (fun e w' => e = .returned (.int .i64 v) ∧ Below W.heap.size W w'))
    (hK : ∀ W, Kp w W → Calls Tryz.prog 53 #[.int .i64 v] W (fun e w' => e = .returned (.iface 365 (.pointer (some aX))) ∧ Below W.heap.size W w')) :
    Calls Tryz.prog 8 #[.slice a n c] w fun e w' => e = .returned (.bool true) ∧ Below w.heap.size w w' := by
  obtain rfl := hs.len
  have HS : Hid ((∀ i, i < V.length → smlP D 4 i) ↔ true = true) := Lib.hid ⟨fun _ => rfl, fun _ => hS⟩
  have hno : ¬ (10 < (V.length : Int)) := by omega
  have hv0 : (v == 0) = false := by rcases hv with rfl | rfl <;> rfl
  have hR := hR0.here
  clear hR0 hS hv
  go_enter Tryz.func8, Tryz.ntmps8
  go_wp2_with (first
    | (go_at_call 50; (with_reducible refine Calls.cE (smallPO (V := V) (v := true) hV (Lib.hid ⟨fun _ => rfl, fun _ => HS.out.2 rfl⟩)) ?_); intros))
  with_reducible refine Calls.cOErr (checkErrO (fun W hW => hE W (Kp.tr inferInstance hW))) ?_
  intro W1 _ b1 s1 e1
  go_wp2_with fail
  with_reducible refine Calls.cRErr (areaErrO (fun W hW => hE W (Kp.tr inferInstance hW))) ?_
  intro W2 _ b2 s2 e2
  go_wp2_with fail
  with_reducible refine Calls.cRErr (edgesErrO (fun W hW => hE W (Kp.tr inferInstance hW))) ?_
  intro W3 _ b3 s3 e3
  go_wp2_with fail
  with_reducible refine Calls.cE (hC _ inferInstance) ?_
  intro W4 _
  go_wp2_with fail
  with_reducible refine Calls.cRErr (simpleErrO (fun W hW => hE W (Kp.tr inferInstance hW))) ?_
  intro W5 _ b5 s5 e5
  go_wp2_with fail
  with_reducible refine Calls.cRErr (canonErrO (fun W hW => hE W (Kp.tr inferInstance hW))) ?_
  intro W6 _ b6 s6 e6
  go_wp2_with fail
  with_reducible refine Calls.cE (hK _ inferInstance) ?_
  intro W7 _
  go_wp2_with (first
    | (go_at_call 24; (with_reducible refine Calls.cE known09C ?_); intros)
    | (go_at_call 18; refine (isSameC).mono ?_; rintro _ _ ⟨rfl, rfl⟩)
    | (go_at_call 39; (with_reducible refine Calls.cE sameQZ ?_); intros))
  go_ret
  first | exact E.fin rfl | exact ⟨rfl, (inferInstance : Kp w _).out⟩
theorem ringChecksOk {w w0 w1 : World} {a : Option Addr} {n c : Nat} {V : List AV} {D : Nat → RD} [hs : SlO w (.slice a n c) V.length (rowA V) w0] [hp : PsL w V D] (hV : V.length ≤ 10) (hS : ∀ i, i < V.length → smlP D 4 i) {aR : Addr} [hR0 : Snt w 3 aR w1]
    (hN : ∀ i, i < V.length → nrmP V D i = true) (hR : RingOK (ringP V D)) :
    Calls Tryz.prog 8 #[.slice a n c] w fun e w' => e = .returned (.bool true) ∧ Below w.heap.size w w' := by
  obtain rfl := hs.len
  have pa : PsA w V (ringP V D) 4 := PsA.ofL hp hN hS
  have HS : Hid (∀ i, i < V.length → smlP D 4 i) := Lib.hid hS
  have HN := Lib.hid hN
  have HR := Lib.hid hR
  have HE := Lib.hid hR.edge
  have H3 : Hid (3 ≤ dsc (ringP V D) (ringP V D).length) := Lib.hid hR.three
  have hVl : Hid (V.length = (ringP V D).length) := Lib.hid (ringP_len V D).symm
  have hno : ¬ (10 < (V.length : Int)) := by omega
  have hRr := hR0.here
  clear hR0 hS hN hR
  go_enter Tryz.func8, Tryz.ntmps8
  go_wp2_with (first
    | (go_at_call 50; (with_reducible refine Calls.cE (smallPO (V := V) (v := true) hV (Lib.hid ⟨fun _ => rfl, fun _ => HS.out⟩)) ?_); intros))
  with_reducible refine Calls.cE (checkOkO (V := V) (L := ringP V D) (k := 4) (by omega) (by omega) HR.out) ?_
  intro W1 _
  go_wp2_with fail
  with_reducible refine Calls.cAEr (areaOkO (V := V) (L := ringP V D) (k := 4) (by omega) (by omega) HR.out) ?_
  intro W2 _ ag aa al ac aaa all aac _
  go_wp2_with fail
  with_reducible refine Calls.cFsHEr (edgesOkO (V := V) (L := ringP V D) (k := 4) (by omega) (by omega) HR.out) ?_
  intro W3 _ ea ec E _ ep
  have hE6 : E.length ≤ 1000 := by rw [ep.len, edgesL, List.length_map, List.length_range, ringP_len]; omega
  go_wp2_with fail
  with_reducible refine Calls.cE (refCheckE (V := V) (D := D) hV HS.out HN.out H3.out (v := 0) (.inl ⟨HE.out, rfl⟩)) ?_
  intro W4 _
  go_wp2_with fail
  refine rgn [] [] fun hHeld => ?_
  refine st 0 fun K hK => ?_
  go_simp
  (with_reducible refine Calls.cE known09C ?_); intros
  refine hd hK ?_
  clear hHeld hK K
  intro hHeld
  refine tk 1 hHeld ?_
  refine tk 2 hHeld ?_
  refine tk 3 hHeld ?_
  refine tk 4 hHeld ?_
  refine tk 5 hHeld ?_
  refine tk 6 hHeld ?_
  refine tk 7 hHeld ?_
  refine tk 8 hHeld ?_
  refine tk 9 hHeld ?_
  refine tk 10 hHeld ?_
  refine tk 11 hHeld ?_
  refine tk 12 hHeld ?_
  refine tk 13 hHeld ?_
  refine tk 14 hHeld ?_
  refine tk 15 hHeld ?_
  refine st 16 fun K hK => ?_
  go_simp
  (with_reducible refine Calls.cPsQRet (refPtsO (V := V) (L := ringP V D) (k := 4) (by omega) (by omega)) ?_); intro W5 _ qa qc Q _ qp; have hQ10 : Q.length ≤ 10 := (by rw [qp.len, ringP_len]; exact hV)
  refine hd hK ?_
  clear hHeld hK K
  intro hHeld
  refine st 17 fun K hK => ?_
  go_simp
  (with_reducible refine Calls.cQ (refAreaC (V := Q) (by omega) (by omega)) ?_); intros
  refine hd hK ?_
  clear hHeld hK K
  intro hHeld
  refine st 18 fun K hK => ?_
  go_simp
  (with_reducible refine Calls.cA (toQC (by omega)) ?_); intros
  refine hd hK ?_
  clear hHeld hK K
  intro hHeld
  refine st 19 fun K hK => ?_
  go_simp
  (with_reducible refine Calls.cE (sameQC rfl) ?_); intros
  refine hd hK ?_
  clear hHeld hK K
  intro hHeld
  refine tk 20 hHeld ?_
  refine tk 21 hHeld ?_
  refine tk 22 hHeld ?_
  refine tk 23 hHeld ?_
  refine st 24 fun K hK => ?_
  go_simp
  (with_reducible refine Calls.cPsQRet (refPtsO (V := V) (L := ringP V D) (k := 4) (by omega) (by omega)) ?_); intro W6 _ ra rc R _ rp; have hR10 : R.length ≤ 10 := (by rw [rp.len, ringP_len]; exact hV)
  refine hd hK ?_
  clear hHeld hK K
  intro hHeld
  refine st 25 fun K hK => ?_
  go_simp
  (with_reducible refine Calls.cFsKRet (refEdgesC (V := R) (by omega) (by omega) HE.out) ?_); intro W7 _ fa fc FK _ fp; have hFK : FK.length ≤ 1000 := (by rw [fp.len, edgesL, List.length_map, List.length_range, ringP_len]; omega)
  refine hd hK ?_
  clear hHeld hK K
  intro hHeld
  refine st 26 fun K hK => ?_
  go_simp
  (with_reducible refine Calls.cFsHRet (refWriteFsC (V := FK) (by omega) (by omega)) ?_); intro W8 _ ha hc H _ hp
  refine hd hK ?_
  clear hHeld hK K
  intro hHeld
  refine st 27 fun K hK => ?_
  go_simp
  (with_reducible refine Calls.cE (sameFsC (V := E) (V2 := H) (by omega)) ?_); intros
  refine hd hK ?_
  clear hHeld hK K
  intro hHeld
  refine tk 28 hHeld ?_
  refine tk 29 hHeld ?_
  refine dn ?_
  clear hHeld
  go_wp2
  go_ret
  first | exact E.fin rfl | exact ⟨rfl, (inferInstance : Kp w _).out⟩
theorem ringChecksLong {w w0 w1 : World} {a : Option Addr} {n c : Nat} {V : List AV} {D : Nat → RD} [hs : SlO w (.slice a n c) V.length (rowA V) w0] [hp : PsL w V D] {aR : Addr} [hR0 : Snt w 3 aR w1] (hV : 10 < V.length) :
    Calls Tryz.prog 8 #[.slice a n c] w fun e w' => e = .returned (.bool true) ∧ Below w.heap.size w w' := by
  obtain rfl := hs.len
  have hRr := hR0.here
  clear hR0
  have hno : 10 < (V.length : Int) := by omega
  go_enter Tryz.func8, Tryz.ntmps8
  go_wp2_with (first
    | (go_at_call 24; (with_reducible refine Calls.cE known09C ?_); intros))
  go_ret
  first | exact E.fin rfl | exact ⟨rfl, (inferInstance : Kp w _).out⟩
theorem ringChecksBig {w w0 w1 : World} {a : Option Addr} {n c : Nat} {V : List AV} {D : Nat → RD} [hs : SlO w (.slice a n c) V.length (rowA V) w0] [hp : PsL w V D] {aR : Addr} [hR0 : Snt w 3 aR w1] (hV : V.length ≤ 10) (hS : ¬ ∀ i, i < V.length → smlP D 4 i) :
    Calls Tryz.prog 8 #[.slice a n c] w fun e w' => e = .returned (.bool true) ∧ Below w.heap.size w w' := by
  obtain rfl := hs.len
  have hRr := hR0.here
  clear hR0
  have hno : ¬ (10 < (V.length : Int)) := by omega
  have HS := Lib.hid hS
  clear hS
  go_enter Tryz.func8, Tryz.ntmps8
  go_wp2_with (first
    | (go_at_call 50; (with_reducible refine Calls.cE (smallPO (V := V) (v := false) hV (Lib.hid ⟨fun h => absurd h HS.out, fun e => by cases e⟩)) ?_); intros)
    | (go_at_call 24; (with_reducible refine Calls.cE known09C ?_); intros))
  go_ret
  first | exact E.fin rfl | exact ⟨rfl, (inferInstance : Kp w _).out⟩
theorem ringChecks_walk (a0 : Option Addr) (len0 cap0 : Nat) (V0 : List AV) (w : World) (w0 : RawR w a0 len0 cap0 V0) (hL : laidMetH Tryz.prog laid9 w) :
    Calls Tryz.prog 8 #[.slice a0 len0 cap0] w fun e w' => e = .returned (.bool true) ∧ Below w.heap.size w w' := by
  obtain ⟨aI, aR, aL, sI, sR, sL⟩ := sents9 hL
  have hs := w0.sl
  obtain ⟨D, hp⟩ := w0.psl
  by_cases h10 : V0.length ≤ 10
  · by_cases hS : ∀ i, i < V0.length → smlP D 4 i
    · rcases first_bad (p := nrmP V0 D) V0.length with hN | ⟨i0, h0, hN, hB⟩
      · have pa : PsA w V0 (ringP V0 D) 4 := PsA.ofL hp hN hS
        by_cases h3 : dsc (ringP V0 D) (ringP V0 D).length < 3
        · exact ringChecksErr (V := V0) (D := D) (aX := aR) (v := 3) h10 hS (.inr rfl)
            (fun W hW => by have kw := Kp1.mk hW.out; exact ringOfThreeO (V := V0) (L := ringP V0 D) (k := 4) (by omega) (by omega) h3)
            (fun W hW => by have kw := Kp1.mk hW.out; exact refCheckFew (V := V0) (D := D) h10 hS hN h3)
            (fun W hW => by have kw := Kp1.mk hW.out; exact ringKind3)
        · have h3' : 3 ≤ dsc (ringP V0 D) (ringP V0 D).length := by omega
          by_cases hE : ∃ i, i < (ringP V0 D).length ∧ pg (ringP V0 D) i = pg (ringP V0 D) ((i + 1) % (ringP V0 D).length)
          · exact ringChecksErr (V := V0) (D := D) (aX := aR) (v := 3) h10 hS (.inr rfl)
              (fun W hW => by have kw := Kp1.mk hW.out; exact ringOfEdgeO (V := V0) (L := ringP V0 D) (k := 4) (by omega) h10 h3' hE)
              (fun W hW => by have kw := Kp1.mk hW.out; exact refCheckE (V := V0) (D := D) h10 hS hN h3' (.inr ⟨hE, rfl⟩))
              (fun W hW => by have kw := Kp1.mk hW.out; exact ringKind3)
          · exact ringChecksOk (V := V0) (D := D) h10 hS hN ⟨h3', fun i hi he => hE ⟨i, hi, he⟩⟩
      · exact ringChecksErr (V := V0) (D := D) (aX := aI) (v := 2) h10 hS (.inl rfl)
          (fun W hW => by have kw := Kp1.mk hW.out; exact ringOfBadO (V := V0) (D := D) h10 hS h0 hN hB)
          (fun W hW => by have kw := Kp1.mk hW.out; exact refCheckBad (V := V0) (D := D) h10 hS h0 hN hB)
          (fun W hW => by have kw := Kp1.mk hW.out; exact ringKind2)
    · exact ringChecksBig (V := V0) (D := D) h10 hS
  · exact ringChecksLong (V := V0) (D := D) (by omega)
end Go.Proofs.YtdlnoeegboapkaaGreatDoor
