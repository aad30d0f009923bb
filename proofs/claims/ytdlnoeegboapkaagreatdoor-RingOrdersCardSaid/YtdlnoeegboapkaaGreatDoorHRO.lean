/-
  Texts of this claim, joined: LawRO.
-/
import Derived.Test.YtdlnoeegboapkaaGreatDoorBU
import Derived.Test.YtdlnoeegboapkaaGreatDoorBV
/- The law RingOrders: its walk. printed by a small program (mklawr2.py). -/
namespace Go.Proofs.YtdlnoeegboapkaaGreatDoor
open Go.RowKit
set_option maxRecDepth 100000
set_option maxHeartbeats 40000000
set_option synthInstance.maxSize 100000
set_option synthInstance.maxHeartbeats 1000000
set_option linter.unusedVariables false

theorem ringOrders_walk (a0 : Option Addr) (len0 cap0 : Nat) (z0 : List Int) (w : World) (w0 : IsRow .i64 w a0 len0 cap0 z0) (hL : laidMetH Tryz.prog laid9 w) :
    Calls Tryz.prog 5 #[.slice a0 len0 cap0] w fun e w' => e = .returned (.bool true) ∧ Below w.heap.size w w' := by
  obtain ⟨aI, aR, aL, sI, sR, sL⟩ := sents9 hL
  clear hL sI sL
  go_enter Tryz.func5, Tryz.ntmps5
  go_wp2_with fail
  with_reducible refine Calls.cNew (newW w0) ?_
  intro W0 _ _
  go_wp2_with fail
  with_reducible refine Calls.cRing tapeRingC ?_
  intro W1 _ _ a1 c1 V L _ _ _ h1
  go_wp2_with fail
  with_reducible refine Calls.cRing tapeRingC ?_
  intro W2 _ _ a2 c2 V2 M _ _ _ h2
  have hV0 : 0 < V.length := by rw [PsQ.len (W := W1) (V := V)]; exact h1.out.1.pos
  have hV0' : (0 : Int) < V.length := by omega
  have hV6 : V.length ≤ 6 := h1.out.2.2
  go_upto_if 26 with (go_at_call 26; (with_reducible refine Calls.cNext (nextC (by omega)) ?_); intro W3 _ _ v v1 v2)
  go_cut [5, 7] from 27 to 38 (fun s5 s7 wx => ∃ (a : Option Addr) (c : Nat) (U : List AV) (N : List (Rat × Rat)), s5 = .slice a U.length c ∧ Sl wx (.slice a U.length c) U.length (rowA U) wx ∧ PsQ wx U N 4 ∧ Hid (RingOK N ∧ U.length ≤ 6) ∧ Ct wx w.heap.size ∧ Gb W3 wx w.heap.size)
  case first =>
    by_cases hv : v = 0
    · subst hv
      go_wp2_with fail
      with_reducible refine Calls.cNext (nextC (by omega)) ?_
      intro W4 _ _ x x1 x2
      obtain ⟨i, rfl⟩ : ∃ i : Nat, x = (i : Int) := ⟨x.toNat, by omega⟩
      have isl : Sl W4 (.slice a1 V.length c1) V.length (rowA V) W1 := inferInstance
      have hcap := isl.capc
      obtain ⟨g, rfl, hA⟩ := isl.form hV0
      have hlt : i < V.length := by omega
      have hlt' : (i : Int) < V.length := by omega
      have hi2 : (i : Int) ≤ V.length := by omega
      have hci : ¬ (c1 = i) := by omega
      have hic : i ≤ c1 := by omega
      have hil : i ≤ V.length := by omega
      by_cases h0 : i = 0
      · subst h0
        rw [show (((0 : Nat)) : Int) = 0 from rfl] at *
        go_wp2_with fail
        refine rgn [] [] fun hHeld => ?_
        refine tk 1 hHeld ?_
        refine tk 2 hHeld ?_
        refine tk 3 hHeld ?_
        refine tk 5 hHeld ?_
        refine tk 6 hHeld ?_
        refine tk 7 hHeld ?_
        refine st 0 fun K hK => ?_
        go_simp
        refine hd hK ?_
        clear hHeld hK K
        intro hHeld
        refine st 4 fun K hK => ?_
        rw [if_pos (by rfl)]
        refine appO_full (.tmp 30) (.tmp 33) 61 rfl Tryz.underlying61 info_q rfl (by decide) (by decide) inferInstance (n := 0) (xs := []) rfl (.inr ⟨_, rfl, fun j u hu => by simp at hu⟩) rfl (by simp) rfl (l := rowA V) (fun j u hu => by rw [add_off, Nat.zero_add]; exact (inferInstance : At _ g (rowA V) _).out _ _ hu) (rowA_len _) (rowA_nd _) (by omega) (by omega) ?_
        intro g4 c4 W4 k4 i4
        simp only [Nat.zero_add, List.nil_append] at i4 ⊢
        have hc4 := i4.cap.1
        refine hd hK ?_
        clear hHeld hK K
        intro hHeld
        refine st 8 fun K hK => ?_
        rw [if_pos (by rfl)]
        refine appO_none (.tmp 34) (.tmp 37) 61 rfl Tryz.underlying61 info_q rfl hc4 rfl (.inr ⟨_, _, rfl⟩) ?_
        refine hd hK ?_
        clear hHeld hK K
        intro hHeld
        refine tk 9 hHeld ?_
        refine dn ?_
        clear hHeld
        have e5 : (V.drop 0 ++ V.take 0).length = V.length := by simp
        have is5 := Sl.ofRn (h := Rn.cast2 i4 e5.symm (xs' := rowA (V.drop 0 ++ V.take 0)) (by simp))
        rw [← e5] at is5
        go_wp2
        go_meet
        exact ⟨_, _, V.drop 0 ++ V.take 0, rot L 0, (by rw [e5]), is5.here, PsQ.turn (h := inferInstance) hlt, Lib.hid ⟨h1.out.1.rot (by rw [← PsQ.len (W := W1) (V := V)]; exact hlt), by rw [e5]; exact hV6⟩, inferInstance, inferInstance⟩
      · have h0' : ¬ (V.length = i) := by omega
        go_wp2_with fail
        refine rgn [] [] fun hHeld => ?_
        refine tk 1 hHeld ?_
        refine tk 2 hHeld ?_
        refine tk 3 hHeld ?_
        refine tk 5 hHeld ?_
        refine tk 6 hHeld ?_
        refine tk 7 hHeld ?_
        refine st 0 fun K hK => ?_
        go_simp
        refine hd hK ?_
        clear hHeld hK K
        intro hHeld
        refine st 4 fun K hK => ?_
        rw [if_pos (by rfl)]
        refine appO_full (.tmp 30) (.tmp 33) 61 rfl Tryz.underlying61 info_q rfl (by decide) (by decide) inferInstance (n := 0) (xs := []) rfl (.inr ⟨_, rfl, fun j u hu => by simp at hu⟩) rfl (by simp) rfl (l := rowA (V.drop i)) (fun j u hu => by rw [add_off]; exact (inferInstance : At _ g (rowA V) _).out _ _ (rowA_drop V i j u hu)) (by rw [rowA_len, List.length_drop]) (rowA_nd _) (by omega) (by omega) ?_
        intro g4 c4 W4 k4 i4
        simp only [Nat.zero_add, List.nil_append] at i4 ⊢
        refine hd hK ?_
        clear hHeld hK K
        intro hHeld
        refine st 8 fun K hK => ?_
        rw [if_pos (by rfl)]
        refine appO_own (v := .slice (some ⟨g4, 0, none⟩) (V.length - i) c4) (.tmp 34) (.tmp 37) 61 rfl Tryz.underlying61 info_q rfl (by decide) (by decide) (by decide) inferInstance rfl (rowA_nd _) rfl (l := rowA (V.take i)) (fun j u hu => by rw [add_off, Nat.zero_add]; exact (inferInstance : At _ g (rowA V) _).out _ _ (rowA_take V i j u hu)) (by rw [rowA_len, List.length_take, Nat.min_eq_left (by omega)]) (rowA_one _) (rowA_nd _) (by omega) (by omega) ?_
        intro g5 c5 W5 k5 k5n i5
        simp only [Nat.sub_add_cancel (show i ≤ V.length by omega)] at i5 ⊢
        refine hd hK ?_
        clear hHeld hK K
        intro hHeld
        refine tk 9 hHeld ?_
        refine dn ?_
        clear hHeld
        have e5 : (V.drop i ++ V.take i).length = V.length := by (simp; omega)
        have is5 := Sl.ofRn (h := Rn.cast2 i5 e5.symm (xs' := rowA (V.drop i ++ V.take i)) (by simp [rowA_app]))
        rw [← e5] at is5
        go_wp2
        go_meet
        exact ⟨_, _, V.drop i ++ V.take i, rot L i, (by rw [e5]), is5.here, PsQ.turn (h := inferInstance) hlt, Lib.hid ⟨h1.out.1.rot (by rw [← PsQ.len (W := W1) (V := V)]; exact hlt), by rw [e5]; exact hV6⟩, inferInstance, inferInstance⟩
    · have hv1 : (v == 0) = false := beq_false_of_ne hv
      go_wp2_with fail
      go_meet
      exact ⟨a2, c2, V2, M, rfl, Sl.here inferInstance, inferInstance, Lib.hid ⟨h2.out.1, h2.out.2.2⟩, inferInstance, inferInstance⟩
  case rest =>
    obtain ⟨a3, c3, U, N, rfl, j1, j2, j3, j4, j5⟩ := hcut
    have kt : Tp1 W3 wc w.heap.size := ⟨j5.out, Ct.out⟩
    clear j5 h2
    have hr1 := Lib.hid h1.out.1
    have hr2 := Lib.hid j3.out.1
    have hU6 : U.length ≤ 6 := j3.out.2
    have hlV := Lib.hid (PsQ.len (W := W1) (V := V) (L := L) (k := 4))
    have hlU := Lib.hid j2.len
    have hU0 : 0 < U.length := by rw [j2.len]; exact hr2.out.pos
    clear h1 j3 hV0'
    obtain ⟨res, hres⟩ : ∃ r, cmpLs L N = r := ⟨_, rfl⟩
    have HRES := Lib.hid hres
    clear hres
    go_wp2_with fail
    with_reducible refine Calls.cPsARet (toPsC (V := V) (by omega) (by omega)) ?_
    intro W4 _ xa xc X _ xp
    have hX := Lib.hid xp.len
    go_wp2_with fail
    with_reducible refine Calls.cPsARet (toPsC (V := U) (by omega) (by omega)) ?_
    intro W5 _ ya yc Y _ yp
    have hY := Lib.hid yp.len
    have hX6 : X.length ≤ 6 := by rw [hX.out, ← hlV.out]; exact hV6
    have hY6 : Y.length ≤ 6 := by rw [hY.out, ← hlU.out]; exact hU6
    go_wp2_with fail
    with_reducible refine Calls.cPsAEr (rCanonC (V := X) (by omega) (by omega) hr1.out) ?_
    intro W6 _ aa ac A _ ap
    have hA := Lib.hid ap.len
    go_wp2_with fail
    with_reducible refine Calls.cPsAEr (rCanonC (V := Y) (by omega) (by omega) hr2.out) ?_
    intro W7 _ ba bc B _ bp
    have hB := Lib.hid bp.len
    go_wp2_with fail
    with_reducible refine Calls.cE (rCompareC (V := X) (V2 := Y) (by omega) ⟨by omega, by omega⟩ hr1.out hr2.out HRES) ?_
    intros
    have hA6 : A.length ≤ 6 := by rw [hA.out, canonL, bst_len, ← hX.out]; exact hX6
    have hB6 : B.length ≤ 6 := by rw [hB.out, canonL, bst_len, ← hY.out]; exact hY6
    go_wp2_with (go_at_call 24; (with_reducible refine Calls.cE known09C ?_); intros)
    with_reducible refine Calls.cPsQRet (refCanonC (V := V) (by omega) ⟨hV0, by omega⟩) ?_
    intro W8 _ ca cc C _ cp
    have hC := Lib.hid cp.len
    have hC6 : C.length ≤ 6 := by rw [hC.out, canonL, bst_len, ← hlV.out]; exact hV6
    go_wp2_with fail
    with_reducible refine Calls.cPsARet (toPsC (V := C) (by omega) (by omega)) ?_
    intro W9 _ da dc D _ dp
    go_wp2_with fail
    with_reducible refine Calls.cE (samePsC (V := A) (V2 := D) rfl (by omega)) ?_
    intros
    go_wp2_with fail
    with_reducible refine Calls.cPsQRet (refCanonC (V := U) (by omega) ⟨hU0, by omega⟩) ?_
    intro W10 _ ea ec E _ ep
    have hE := Lib.hid ep.len
    have hE6 : E.length ≤ 6 := by rw [hE.out, canonL, bst_len, ← hlU.out]; exact hU6
    go_wp2_with fail
    with_reducible refine Calls.cPsARet (toPsC (V := E) (by omega) (by omega)) ?_
    intro W11 _ fa fc F _ fp
    go_wp2_with fail
    with_reducible refine Calls.cE (samePsC (V := B) (V2 := F) rfl (by omega)) ?_
    intros
    go_wp2_with fail
    with_reducible refine Calls.cE (refRingCmpV (V := V) (V2 := U) (by omega) ⟨by omega, by omega⟩ HRES) ?_
    intros
    go_wp2_with fail
    go_ret
    first | exact E.fin rfl | exact ⟨rfl, (inferInstance : Kp w _).out⟩
end Go.Proofs.YtdlnoeegboapkaaGreatDoor
