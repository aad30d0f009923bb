/-
  The law RationalTexts.
  Printed by a small program (mkrtexts.py).
-/
import Derived.Test.YtnkfbkdcplbgoaaGreatDoorRC
import Derived.Test.YtnkfbkdcplbgoaaGreatDoorRD
namespace Go.Proofs.YtnkfbkdcplbgoaaGreatDoor
open Go.RowKit

theorem sameQ0 {w : World} : Calls Tryz.prog 23 #[.agg #[.bool false, .slice none 0 0, .slice none 0 0], .agg #[.bool false, .slice none 0 0, .slice none 0 0]] w (fun e w' => e = .returned (.bool true) ∧ Below w.heap.size w w') := by
  go_enter Tryz.func23, Tryz.ntmps23
  go_wp2_with (first
    | (go_at_call 47; (with_reducible refine Calls.cE (sameIC rfl) ?_); intros)
    | (go_at_call 83; (with_reducible refine Calls.cE (sameNG (m := 0) (n := 0)) ?_); intros))
  go_ret
  exact E.fin rfl
theorem pk01 {l : List UInt8} (h : l.length ≤ 4000) : pKind l = 0 ∨ pKind l = 1 := by
  rcases pKind_cases l with h1 | h1 | h1
  · exact .inr h1
  · have := pk2 h1; omega
  · exact .inl h1
set_option linter.unusedSimpArgs false in
set_option maxRecDepth 100000 in
set_option maxHeartbeats 4000000 in
set_option synthInstance.maxSize 100000 in
set_option synthInstance.maxHeartbeats 1000000 in
theorem rationalTexts_walk (s : ByteArray) (a0 : Option Addr) (len0 cap0 : Nat) (z0 : List Int) (w : World) (_ : s.size ≤ maxLen) (w0 : IsRow .i64 w a0 len0 cap0 z0) (hL : laidMetH Tryz.prog laid3 w) :
    Calls Tryz.prog 4 #[.string s, .slice a0 len0 cap0] w fun e w' => e = .returned (.bool true) ∧ Below w.heap.size w w' := by
  obtain ⟨s0, s1, s2, i0, i1, i2, hne⟩ := sents3 hL
  clear hL
  by_cases h200 : s.size ≤ 200
  · have hlen := str_len s
    have hc1 := cutL_len s.data.toList
    have hc2 := cutR_len s.data.toList
    have hc3 := iDig_len (cutL s.data.toList)
    have he := pk01 (l := iDig (cutL s.data.toList)) (by omega)
    have hf := pk01 (l := cutR s.data.toList) (by omega)
    clear hlen hc1 hc2 hc3
    cases hh : hasSlash s.data.toList with
    | false =>
      have HH := Lib.hid hh
      have HCL : Hid (cutL s.data.toList = s.data.toList) := by show _ = _; unfold cutL; rw [hh]; rfl
      clear hh hf
      rcases he with he | he
      · have HE := Lib.hid he
        have HE2 : Hid (pKind (iDig s.data.toList) = 0) := by have := HE.out; rw [HCL.out] at this; exact this
        have HV : Hid (iVal (cutL s.data.toList) = iVal s.data.toList) := by show _ = _; rw [HCL.out]
        clear he
        go_enter Tryz.func4, Tryz.ntmps4
        go_wp2_with fail
        with_reducible refine Calls.kRat (rparse_0n s hne (by omega) HH.out ⟨HE.out, HV.out⟩) ?_
        intro W3 _ g3 a3 l3 c3 aa3 ll3 cc3 _
        go_wp2_with fail
        with_reducible refine Calls.kReadQ (readQ_n (by omega) HH.out HE2.out (by decide) (z := iVal s.data.toList) rfl rfl) ?_
        intro W4 _ g4 a4 l4 c4 aa4 ll4 cc4 _
        go_wp2_with fail
        with_reducible refine Calls.cE (same03C (by omega)) ?_
        intro W5 _
        go_wp2_with fail
        with_reducible refine Calls.cNew (newW (w0.keep (inferInstance : Kp w _).out)) ?_
        intro W6 _ _
        go_wp2_with fail
        with_reducible refine Calls.cTW rmadeC ?_
        intro W7 _ _ g7 a7 l7 c7 aa7 ll7 cc7 x i7
        obtain ⟨hb1, hb2⟩ := cw_dl i7 (t := 3000) (by omega) (by omega)
        have HSZ : Hid ((fmtQ x).size ≤ 1000000) := by have := fmtQ_size x; show _ ≤ _; omega
        go_wp2_with fail
        with_reducible refine Calls.cE (ratFormatC (by omega) (by omega) (by omega)) ?_
        intro W8 _
        go_wp2_with fail
        with_reducible refine Calls.kRat (parse_fmt hne HSZ.out (by omega) (by omega)) ?_
        intro W9 _ g9 a9 l9 c9 aa9 ll9 cc9 _
        go_wp2_with fail
        refine region_cls (by kernel_rfl) [] (fun hHeld => ?_)
        refine wpAnyH_ready (rs := [0]) (by kernel_rfl) (by simp) ?_
        refine AllReadyH.cons (by simp; rfl) (fun K hK => ?_) AllReadyH.nil
        go_simp
        (go_at_call 21; (with_reducible refine Calls.cE (known03C inferInstance inferInstance inferInstance hne) ?_); intros)
        refine hK.out _ _ inferInstance ?_
        clear hHeld hK K
        intro hHeld
        try simp only [Act.put, List.setIfInBounds_toArray, List.set_cons_zero, List.set_cons_succ]
        refine wpAnyH_take (i := 1) (v := ?z5) (by simp; rfl) (by kernel_rfl) (by kernel_rfl) (by kernel_rfl) (by exact fun _ _ _ h => h) (Or.inl ⟨by rfl, ?yz5⟩) hHeld ?_
        case yz5 => (intro wx hSw; have hSx := Ex1.mk hSw; go_simp; (try with_reducible rfl))
        try simp only [Act.put, List.setIfInBounds_toArray, List.set_cons_zero, List.set_cons_succ]
        refine wpAnyH_take (i := 2) (v := ?z6) (by simp; rfl) (by kernel_rfl) (by kernel_rfl) (by kernel_rfl) (by exact fun _ _ _ h => h) (Or.inl ⟨by rfl, ?yz6⟩) hHeld ?_
        case yz6 => (intro wx hSw; have hSx := Ex1.mk hSw; go_simp; (try with_reducible rfl))
        try simp only [Act.put, List.setIfInBounds_toArray, List.set_cons_zero, List.set_cons_succ]
        refine wpAnyH_take (i := 3) (v := ?z7) (by simp; rfl) (by kernel_rfl) (by kernel_rfl) (by kernel_rfl) (by exact fun _ _ _ h => h) (Or.inl ⟨by rfl, ?yz7⟩) hHeld ?_
        case yz7 => (intro wx hSw; have hSx := Ex1.mk hSw; go_simp; (try with_reducible rfl))
        try simp only [Act.put, List.setIfInBounds_toArray, List.set_cons_zero, List.set_cons_succ]
        refine wpAnyH_take (i := 4) (v := ?z8) (by simp; rfl) (by kernel_rfl) (by kernel_rfl) (by kernel_rfl) (by exact fun _ _ _ h => h) (Or.inl ⟨by rfl, ?yz8⟩) hHeld ?_
        case yz8 => (intro wx hSw; have hSx := Ex1.mk hSw; go_simp; (try with_reducible rfl))
        try simp only [Act.put, List.setIfInBounds_toArray, List.set_cons_zero, List.set_cons_succ]
        refine wpAnyH_take (i := 5) (v := ?z9) (by simp; rfl) (by kernel_rfl) (by kernel_rfl) (by kernel_rfl) (by exact fun _ _ _ h => h) (Or.inl ⟨by rfl, ?yz9⟩) hHeld ?_
        case yz9 => (intro wx hSw; have hSx := Ex1.mk hSw; go_simp; (try with_reducible rfl))
        try simp only [Act.put, List.setIfInBounds_toArray, List.set_cons_zero, List.set_cons_succ]
        refine wpAnyH_take (i := 6) (v := ?z10) (by simp; rfl) (by kernel_rfl) (by kernel_rfl) (by kernel_rfl) (by exact fun _ _ _ h => h) (Or.inl ⟨by rfl, ?yz10⟩) hHeld ?_
        case yz10 => (intro wx hSw; have hSx := Ex1.mk hSw; go_simp; (try with_reducible rfl))
        try simp only [Act.put, List.setIfInBounds_toArray, List.set_cons_zero, List.set_cons_succ]
        refine wpAnyH_take (i := 7) (v := ?z11) (by simp; rfl) (by kernel_rfl) (by kernel_rfl) (by kernel_rfl) (by exact fun _ _ _ h => h) (Or.inl ⟨by rfl, ?yz11⟩) hHeld ?_
        case yz11 => (intro wx hSw; have hSx := Ex1.mk hSw; go_simp; (try with_reducible rfl))
        try simp only [Act.put, List.setIfInBounds_toArray, List.set_cons_zero, List.set_cons_succ]
        refine wpAnyH_ready (rs := [8]) (by kernel_rfl) (by simp) ?_
        refine AllReadyH.cons (by simp; rfl) (fun K hK => ?_) AllReadyH.nil
        go_simp
        (go_at_call 27; (with_reducible refine Calls.cQ (refQC (by omega)) ?_); intros)
        refine hK.out _ _ inferInstance ?_
        clear hHeld hK K
        intro hHeld
        try simp only [Act.put, List.setIfInBounds_toArray, List.set_cons_zero, List.set_cons_succ]
        refine wpAnyH_ready (rs := [9]) (by kernel_rfl) (by simp) ?_
        refine AllReadyH.cons (by simp; rfl) (fun K hK => ?_) AllReadyH.nil
        go_simp
        (go_at_call 24; (with_reducible refine Calls.cE (same03C (by omega)) ?_); intros)
        refine hK.out _ _ inferInstance ?_
        clear hHeld hK K
        intro hHeld
        try simp only [Act.put, List.setIfInBounds_toArray, List.set_cons_zero, List.set_cons_succ]
        refine wpAnyH_take (i := 10) (v := ?z12) (by simp; rfl) (by kernel_rfl) (by kernel_rfl) (by kernel_rfl) (by exact fun _ _ _ h => h) (Or.inl ⟨by rfl, ?yz12⟩) hHeld ?_
        case yz12 => (intro wx hSw; have hSx := Ex1.mk hSw; go_simp; (try with_reducible rfl))
        try simp only [Act.put, List.setIfInBounds_toArray, List.set_cons_zero, List.set_cons_succ]
        refine wpAnyH_take (i := 11) (v := ?z13) (by simp; rfl) (by kernel_rfl) (by kernel_rfl) (by kernel_rfl) (by exact fun _ _ _ h => h) (Or.inl ⟨by rfl, ?yz13⟩) hHeld ?_
        case yz13 => (intro wx hSw; have hSx := Ex1.mk hSw; go_simp; (try with_reducible rfl))
        try simp only [Act.put, List.setIfInBounds_toArray, List.set_cons_zero, List.set_cons_succ]
        refine wpAnyH_take (i := 12) (v := ?z14) (by simp; rfl) (by kernel_rfl) (by kernel_rfl) (by kernel_rfl) (by exact fun _ _ _ h => h) (Or.inl ⟨by rfl, ?yz14⟩) hHeld ?_
        case yz14 => (intro wx hSw; have hSx := Ex1.mk hSw; go_simp; (try with_reducible rfl))
        try simp only [Act.put, List.setIfInBounds_toArray, List.set_cons_zero, List.set_cons_succ]
        refine wpAnyH_take (i := 14) (v := ?z15) (by simp; rfl) (by kernel_rfl) (by kernel_rfl) (by kernel_rfl) (by exact fun _ _ _ h => h) (Or.inl ⟨by rfl, ?yz15⟩) hHeld ?_
        case yz15 => (intro wx hSw; have hSx := Ex1.mk hSw; go_simp; (try with_reducible rfl))
        try simp only [Act.put, List.setIfInBounds_toArray, List.set_cons_zero, List.set_cons_succ]
        refine wpAnyH_ready (rs := [13]) (by kernel_rfl) (by simp) ?_
        refine AllReadyH.cons (by simp; rfl) (fun K hK => ?_) AllReadyH.nil
        go_simp
        (go_at_call 26; (with_reducible refine Calls.cE (ratFormatC (by omega) (by omega) (by omega)) ?_); intros)
        refine hK.out _ _ inferInstance ?_
        clear hHeld hK K
        intro hHeld
        try simp only [Act.put, List.setIfInBounds_toArray, List.set_cons_zero, List.set_cons_succ]
        refine wpAnyH_ready (rs := [15]) (by kernel_rfl) (by simp) ?_
        refine AllReadyH.cons (by simp; rfl) (fun K hK => ?_) AllReadyH.nil
        go_simp
        (go_at_call 27; (with_reducible refine Calls.cQ (refQC (by omega)) ?_); intros)
        refine hK.out _ _ inferInstance ?_
        clear hHeld hK K
        intro hHeld
        try simp only [Act.put, List.setIfInBounds_toArray, List.set_cons_zero, List.set_cons_succ]
        refine wpAnyH_ready (rs := [16]) (by kernel_rfl) (by simp) ?_
        refine AllReadyH.cons (by simp; rfl) (fun K hK => ?_) AllReadyH.nil
        go_simp
        (go_at_call 28; (with_reducible refine Calls.cE (numFormatQ (by omega)) ?_); intros)
        refine hK.out _ _ inferInstance ?_
        clear hHeld hK K
        intro hHeld
        try simp only [Act.put, List.setIfInBounds_toArray, List.set_cons_zero, List.set_cons_succ]
        refine wpAnyH_take (i := 17) (v := ?z16) (by simp; rfl) (by kernel_rfl) (by kernel_rfl) (by kernel_rfl) (by exact fun _ _ _ h => h) (Or.inl ⟨by rfl, ?yz16⟩) hHeld ?_
        case yz16 => (intro wx hSw; have hSx := Ex1.mk hSw; go_simp; (try with_reducible rfl))
        try simp only [Act.put, List.setIfInBounds_toArray, List.set_cons_zero, List.set_cons_succ]
        refine wpAnyH_take (i := 18) (v := ?z17) (by simp; rfl) (by kernel_rfl) (by kernel_rfl) (by kernel_rfl) (by exact fun _ _ _ h => h) (Or.inl ⟨by rfl, ?yz17⟩) hHeld ?_
        case yz17 => (intro wx hSw; have hSx := Ex1.mk hSw; go_simp; (try with_reducible rfl))
        try simp only [Act.put, List.setIfInBounds_toArray, List.set_cons_zero, List.set_cons_succ]
        refine wpAnyH_take (i := 19) (v := ?z18) (by simp; rfl) (by kernel_rfl) (by kernel_rfl) (by kernel_rfl) (by exact fun _ _ _ h => h) (Or.inl ⟨by rfl, ?yz18⟩) hHeld ?_
        case yz18 => (intro wx hSw; have hSx := Ex1.mk hSw; go_simp; (try with_reducible rfl))
        try simp only [Act.put, List.setIfInBounds_toArray, List.set_cons_zero, List.set_cons_succ]
        refine wpAnyH_done (by kernel_rfl) ?_ _
        clear hHeld
        go_wp2
        go_ret
        exact E.fin rfl
      · have HE := Lib.hid he
        have HE2 : Hid (pKind (iDig s.data.toList) = 1) := by have := HE.out; rw [HCL.out] at this; exact this
        clear he
        go_enter Tryz.func4, Tryz.ntmps4
        go_wp2_with fail
        with_reducible refine Calls.kErr (rparse_1n s hne (by omega) HH.out HE.out) ?_
        intro W3 _ b3 t3 _ _
        go_wp2_with fail
        with_reducible refine Calls.kReadQ (readQ_n (by omega) HH.out HE2.out (by decide) rfl rfl) ?_
        intro W4 _ g4 a4 l4 c4 aa4 ll4 cc4 _
        go_wp2_with fail
        refine isSameC.mono ?_
        rintro e W5 ⟨rfl, rfl⟩
        go_wp2_with fail
        with_reducible refine Calls.cE (sameQ0) ?_
        intro W5 _
        go_wp2_with fail
        with_reducible refine Calls.cNew (newW (w0.keep (inferInstance : Kp w _).out)) ?_
        intro W6 _ _
        go_wp2_with fail
        with_reducible refine Calls.cTW rmadeC ?_
        intro W7 _ _ g7 a7 l7 c7 aa7 ll7 cc7 x i7
        obtain ⟨hb1, hb2⟩ := cw_dl i7 (t := 3000) (by omega) (by omega)
        have HSZ : Hid ((fmtQ x).size ≤ 1000000) := by have := fmtQ_size x; show _ ≤ _; omega
        go_wp2_with fail
        with_reducible refine Calls.cE (ratFormatC (by omega) (by omega) (by omega)) ?_
        intro W8 _
        go_wp2_with fail
        with_reducible refine Calls.kRat (parse_fmt hne HSZ.out (by omega) (by omega)) ?_
        intro W9 _ g9 a9 l9 c9 aa9 ll9 cc9 _
        go_wp2_with fail
        refine region_cls (by kernel_rfl) [] (fun hHeld => ?_)
        refine wpAnyH_ready (rs := [0]) (by kernel_rfl) (by simp) ?_
        refine AllReadyH.cons (by simp; rfl) (fun K hK => ?_) AllReadyH.nil
        go_simp
        (go_at_call 21; (with_reducible refine Calls.cE (known03C inferInstance inferInstance inferInstance hne) ?_); intros)
        refine hK.out _ _ inferInstance ?_
        clear hHeld hK K
        intro hHeld
        try simp only [Act.put, List.setIfInBounds_toArray, List.set_cons_zero, List.set_cons_succ]
        refine wpAnyH_take (i := 1) (v := ?z19) (by simp; rfl) (by kernel_rfl) (by kernel_rfl) (by kernel_rfl) (by exact fun _ _ _ h => h) (Or.inl ⟨by rfl, ?yz19⟩) hHeld ?_
        case yz19 => (intro wx hSw; have hSx := Ex1.mk hSw; go_simp; (try with_reducible rfl))
        try simp only [Act.put, List.setIfInBounds_toArray, List.set_cons_zero, List.set_cons_succ]
        refine wpAnyH_take (i := 2) (v := ?z20) (by simp; rfl) (by kernel_rfl) (by kernel_rfl) (by kernel_rfl) (by exact fun _ _ _ h => h) (Or.inl ⟨by rfl, ?yz20⟩) hHeld ?_
        case yz20 => (intro wx hSw; have hSx := Ex1.mk hSw; go_simp; (try with_reducible rfl))
        try simp only [Act.put, List.setIfInBounds_toArray, List.set_cons_zero, List.set_cons_succ]
        refine wpAnyH_take (i := 3) (v := ?z21) (by simp; rfl) (by kernel_rfl) (by kernel_rfl) (by kernel_rfl) (by exact fun _ _ _ h => h) (Or.inl ⟨by rfl, ?yz21⟩) hHeld ?_
        case yz21 => (intro wx hSw; have hSx := Ex1.mk hSw; go_simp; (try with_reducible rfl))
        try simp only [Act.put, List.setIfInBounds_toArray, List.set_cons_zero, List.set_cons_succ]
        refine wpAnyH_take (i := 4) (v := ?z22) (by simp; rfl) (by kernel_rfl) (by kernel_rfl) (by kernel_rfl) (by exact fun _ _ _ h => h) (Or.inl ⟨by rfl, ?yz22⟩) hHeld ?_
        case yz22 => (intro wx hSw; have hSx := Ex1.mk hSw; go_simp; (try with_reducible rfl))
        try simp only [Act.put, List.setIfInBounds_toArray, List.set_cons_zero, List.set_cons_succ]
        refine wpAnyH_take (i := 5) (v := ?z23) (by simp; rfl) (by kernel_rfl) (by kernel_rfl) (by kernel_rfl) (by exact fun _ _ _ h => h) (Or.inl ⟨by rfl, ?yz23⟩) hHeld ?_
        case yz23 => (intro wx hSw; have hSx := Ex1.mk hSw; go_simp; (try with_reducible rfl))
        try simp only [Act.put, List.setIfInBounds_toArray, List.set_cons_zero, List.set_cons_succ]
        refine wpAnyH_take (i := 6) (v := ?z24) (by simp; rfl) (by kernel_rfl) (by kernel_rfl) (by kernel_rfl) (by exact fun _ _ _ h => h) (Or.inl ⟨by rfl, ?yz24⟩) hHeld ?_
        case yz24 => (intro wx hSw; have hSx := Ex1.mk hSw; go_simp; (try with_reducible rfl))
        try simp only [Act.put, List.setIfInBounds_toArray, List.set_cons_zero, List.set_cons_succ]
        refine wpAnyH_take (i := 7) (v := ?z25) (by simp; rfl) (by kernel_rfl) (by kernel_rfl) (by kernel_rfl) (by exact fun _ _ _ h => h) (Or.inl ⟨by rfl, ?yz25⟩) hHeld ?_
        case yz25 => (intro wx hSw; have hSx := Ex1.mk hSw; go_simp; (try with_reducible rfl))
        try simp only [Act.put, List.setIfInBounds_toArray, List.set_cons_zero, List.set_cons_succ]
        refine wpAnyH_ready (rs := [8]) (by kernel_rfl) (by simp) ?_
        refine AllReadyH.cons (by simp; rfl) (fun K hK => ?_) AllReadyH.nil
        go_simp
        (go_at_call 27; (with_reducible refine Calls.cQ (refQC (by omega)) ?_); intros)
        refine hK.out _ _ inferInstance ?_
        clear hHeld hK K
        intro hHeld
        try simp only [Act.put, List.setIfInBounds_toArray, List.set_cons_zero, List.set_cons_succ]
        refine wpAnyH_ready (rs := [9]) (by kernel_rfl) (by simp) ?_
        refine AllReadyH.cons (by simp; rfl) (fun K hK => ?_) AllReadyH.nil
        go_simp
        (go_at_call 24; (with_reducible refine Calls.cE (same03C (by omega)) ?_); intros)
        refine hK.out _ _ inferInstance ?_
        clear hHeld hK K
        intro hHeld
        try simp only [Act.put, List.setIfInBounds_toArray, List.set_cons_zero, List.set_cons_succ]
        refine wpAnyH_take (i := 10) (v := ?z26) (by simp; rfl) (by kernel_rfl) (by kernel_rfl) (by kernel_rfl) (by exact fun _ _ _ h => h) (Or.inl ⟨by rfl, ?yz26⟩) hHeld ?_
        case yz26 => (intro wx hSw; have hSx := Ex1.mk hSw; go_simp; (try with_reducible rfl))
        try simp only [Act.put, List.setIfInBounds_toArray, List.set_cons_zero, List.set_cons_succ]
        refine wpAnyH_take (i := 11) (v := ?z27) (by simp; rfl) (by kernel_rfl) (by kernel_rfl) (by kernel_rfl) (by exact fun _ _ _ h => h) (Or.inl ⟨by rfl, ?yz27⟩) hHeld ?_
        case yz27 => (intro wx hSw; have hSx := Ex1.mk hSw; go_simp; (try with_reducible rfl))
        try simp only [Act.put, List.setIfInBounds_toArray, List.set_cons_zero, List.set_cons_succ]
        refine wpAnyH_take (i := 12) (v := ?z28) (by simp; rfl) (by kernel_rfl) (by kernel_rfl) (by kernel_rfl) (by exact fun _ _ _ h => h) (Or.inl ⟨by rfl, ?yz28⟩) hHeld ?_
        case yz28 => (intro wx hSw; have hSx := Ex1.mk hSw; go_simp; (try with_reducible rfl))
        try simp only [Act.put, List.setIfInBounds_toArray, List.set_cons_zero, List.set_cons_succ]
        refine wpAnyH_take (i := 14) (v := ?z29) (by simp; rfl) (by kernel_rfl) (by kernel_rfl) (by kernel_rfl) (by exact fun _ _ _ h => h) (Or.inl ⟨by rfl, ?yz29⟩) hHeld ?_
        case yz29 => (intro wx hSw; have hSx := Ex1.mk hSw; go_simp; (try with_reducible rfl))
        try simp only [Act.put, List.setIfInBounds_toArray, List.set_cons_zero, List.set_cons_succ]
        refine wpAnyH_ready (rs := [13]) (by kernel_rfl) (by simp) ?_
        refine AllReadyH.cons (by simp; rfl) (fun K hK => ?_) AllReadyH.nil
        go_simp
        (go_at_call 26; (with_reducible refine Calls.cE (ratFormatC (by omega) (by omega) (by omega)) ?_); intros)
        refine hK.out _ _ inferInstance ?_
        clear hHeld hK K
        intro hHeld
        try simp only [Act.put, List.setIfInBounds_toArray, List.set_cons_zero, List.set_cons_succ]
        refine wpAnyH_ready (rs := [15]) (by kernel_rfl) (by simp) ?_
        refine AllReadyH.cons (by simp; rfl) (fun K hK => ?_) AllReadyH.nil
        go_simp
        (go_at_call 27; (with_reducible refine Calls.cQ (refQC (by omega)) ?_); intros)
        refine hK.out _ _ inferInstance ?_
        clear hHeld hK K
        intro hHeld
        try simp only [Act.put, List.setIfInBounds_toArray, List.set_cons_zero, List.set_cons_succ]
        refine wpAnyH_ready (rs := [16]) (by kernel_rfl) (by simp) ?_
        refine AllReadyH.cons (by simp; rfl) (fun K hK => ?_) AllReadyH.nil
        go_simp
        (go_at_call 28; (with_reducible refine Calls.cE (numFormatQ (by omega)) ?_); intros)
        refine hK.out _ _ inferInstance ?_
        clear hHeld hK K
        intro hHeld
        try simp only [Act.put, List.setIfInBounds_toArray, List.set_cons_zero, List.set_cons_succ]
        refine wpAnyH_take (i := 17) (v := ?z30) (by simp; rfl) (by kernel_rfl) (by kernel_rfl) (by kernel_rfl) (by exact fun _ _ _ h => h) (Or.inl ⟨by rfl, ?yz30⟩) hHeld ?_
        case yz30 => (intro wx hSw; have hSx := Ex1.mk hSw; go_simp; (try with_reducible rfl))
        try simp only [Act.put, List.setIfInBounds_toArray, List.set_cons_zero, List.set_cons_succ]
        refine wpAnyH_take (i := 18) (v := ?z31) (by simp; rfl) (by kernel_rfl) (by kernel_rfl) (by kernel_rfl) (by exact fun _ _ _ h => h) (Or.inl ⟨by rfl, ?yz31⟩) hHeld ?_
        case yz31 => (intro wx hSw; have hSx := Ex1.mk hSw; go_simp; (try with_reducible rfl))
        try simp only [Act.put, List.setIfInBounds_toArray, List.set_cons_zero, List.set_cons_succ]
        refine wpAnyH_take (i := 19) (v := ?z32) (by simp; rfl) (by kernel_rfl) (by kernel_rfl) (by kernel_rfl) (by exact fun _ _ _ h => h) (Or.inl ⟨by rfl, ?yz32⟩) hHeld ?_
        case yz32 => (intro wx hSw; have hSx := Ex1.mk hSw; go_simp; (try with_reducible rfl))
        try simp only [Act.put, List.setIfInBounds_toArray, List.set_cons_zero, List.set_cons_succ]
        refine wpAnyH_done (by kernel_rfl) ?_ _
        clear hHeld
        go_wp2
        go_ret
        exact E.fin rfl
    | true =>
      have HH := Lib.hid hh
      clear hh
      rcases he with he | he
      · have HE := Lib.hid he
        clear he
        rcases hf with hf | hf
        · have HF := Lib.hid hf
          clear hf
          by_cases hd : bval (cutR s.data.toList) = 0
          · have HD := Lib.hid hd
            clear hd
            go_enter Tryz.func4, Tryz.ntmps4
            go_wp2_with fail
            with_reducible refine Calls.kErr (rparse_00z s hne (by omega) HH.out ⟨HE.out, rfl⟩ ⟨HF.out, rfl⟩ HD.out) ?_
            intro W3 _ b3 t3 _ _
            go_wp2_with fail
            with_reducible refine Calls.kReadQ (readQ_s (by omega) HH.out HE.out (by decide) rfl HF.out (by decide) (d := 0) (by rw [if_pos rfl]; exact HD.out) rfl rfl) ?_
            intro W4 _ g4 a4 l4 c4 aa4 ll4 cc4 _
            go_wp2_with fail
            refine isSameC.mono ?_
            rintro e W5 ⟨rfl, rfl⟩
            go_wp2_with fail
            with_reducible refine Calls.cE (sameQ0) ?_
            intro W5 _
            go_wp2_with fail
            with_reducible refine Calls.cNew (newW (w0.keep (inferInstance : Kp w _).out)) ?_
            intro W6 _ _
            go_wp2_with fail
            with_reducible refine Calls.cTW rmadeC ?_
            intro W7 _ _ g7 a7 l7 c7 aa7 ll7 cc7 x i7
            obtain ⟨hb1, hb2⟩ := cw_dl i7 (t := 3000) (by omega) (by omega)
            have HSZ : Hid ((fmtQ x).size ≤ 1000000) := by have := fmtQ_size x; show _ ≤ _; omega
            go_wp2_with fail
            with_reducible refine Calls.cE (ratFormatC (by omega) (by omega) (by omega)) ?_
            intro W8 _
            go_wp2_with fail
            with_reducible refine Calls.kRat (parse_fmt hne HSZ.out (by omega) (by omega)) ?_
            intro W9 _ g9 a9 l9 c9 aa9 ll9 cc9 _
            go_wp2_with fail
            refine region_cls (by kernel_rfl) [] (fun hHeld => ?_)
            refine wpAnyH_ready (rs := [0]) (by kernel_rfl) (by simp) ?_
            refine AllReadyH.cons (by simp; rfl) (fun K hK => ?_) AllReadyH.nil
            go_simp
            (go_at_call 21; (with_reducible refine Calls.cE (known03C inferInstance inferInstance inferInstance hne) ?_); intros)
            refine hK.out _ _ inferInstance ?_
            clear hHeld hK K
            intro hHeld
            try simp only [Act.put, List.setIfInBounds_toArray, List.set_cons_zero, List.set_cons_succ]
            refine wpAnyH_take (i := 1) (v := ?z33) (by simp; rfl) (by kernel_rfl) (by kernel_rfl) (by kernel_rfl) (by exact fun _ _ _ h => h) (Or.inl ⟨by rfl, ?yz33⟩) hHeld ?_
            case yz33 => (intro wx hSw; have hSx := Ex1.mk hSw; go_simp; (try with_reducible rfl))
            try simp only [Act.put, List.setIfInBounds_toArray, List.set_cons_zero, List.set_cons_succ]
            refine wpAnyH_take (i := 2) (v := ?z34) (by simp; rfl) (by kernel_rfl) (by kernel_rfl) (by kernel_rfl) (by exact fun _ _ _ h => h) (Or.inl ⟨by rfl, ?yz34⟩) hHeld ?_
            case yz34 => (intro wx hSw; have hSx := Ex1.mk hSw; go_simp; (try with_reducible rfl))
            try simp only [Act.put, List.setIfInBounds_toArray, List.set_cons_zero, List.set_cons_succ]
            refine wpAnyH_take (i := 3) (v := ?z35) (by simp; rfl) (by kernel_rfl) (by kernel_rfl) (by kernel_rfl) (by exact fun _ _ _ h => h) (Or.inl ⟨by rfl, ?yz35⟩) hHeld ?_
            case yz35 => (intro wx hSw; have hSx := Ex1.mk hSw; go_simp; (try with_reducible rfl))
            try simp only [Act.put, List.setIfInBounds_toArray, List.set_cons_zero, List.set_cons_succ]
            refine wpAnyH_take (i := 4) (v := ?z36) (by simp; rfl) (by kernel_rfl) (by kernel_rfl) (by kernel_rfl) (by exact fun _ _ _ h => h) (Or.inl ⟨by rfl, ?yz36⟩) hHeld ?_
            case yz36 => (intro wx hSw; have hSx := Ex1.mk hSw; go_simp; (try with_reducible rfl))
            try simp only [Act.put, List.setIfInBounds_toArray, List.set_cons_zero, List.set_cons_succ]
            refine wpAnyH_take (i := 5) (v := ?z37) (by simp; rfl) (by kernel_rfl) (by kernel_rfl) (by kernel_rfl) (by exact fun _ _ _ h => h) (Or.inl ⟨by rfl, ?yz37⟩) hHeld ?_
            case yz37 => (intro wx hSw; have hSx := Ex1.mk hSw; go_simp; (try with_reducible rfl))
            try simp only [Act.put, List.setIfInBounds_toArray, List.set_cons_zero, List.set_cons_succ]
            refine wpAnyH_take (i := 6) (v := ?z38) (by simp; rfl) (by kernel_rfl) (by kernel_rfl) (by kernel_rfl) (by exact fun _ _ _ h => h) (Or.inl ⟨by rfl, ?yz38⟩) hHeld ?_
            case yz38 => (intro wx hSw; have hSx := Ex1.mk hSw; go_simp; (try with_reducible rfl))
            try simp only [Act.put, List.setIfInBounds_toArray, List.set_cons_zero, List.set_cons_succ]
            refine wpAnyH_take (i := 7) (v := ?z39) (by simp; rfl) (by kernel_rfl) (by kernel_rfl) (by kernel_rfl) (by exact fun _ _ _ h => h) (Or.inl ⟨by rfl, ?yz39⟩) hHeld ?_
            case yz39 => (intro wx hSw; have hSx := Ex1.mk hSw; go_simp; (try with_reducible rfl))
            try simp only [Act.put, List.setIfInBounds_toArray, List.set_cons_zero, List.set_cons_succ]
            refine wpAnyH_ready (rs := [8]) (by kernel_rfl) (by simp) ?_
            refine AllReadyH.cons (by simp; rfl) (fun K hK => ?_) AllReadyH.nil
            go_simp
            (go_at_call 27; (with_reducible refine Calls.cQ (refQC (by omega)) ?_); intros)
            refine hK.out _ _ inferInstance ?_
            clear hHeld hK K
            intro hHeld
            try simp only [Act.put, List.setIfInBounds_toArray, List.set_cons_zero, List.set_cons_succ]
            refine wpAnyH_ready (rs := [9]) (by kernel_rfl) (by simp) ?_
            refine AllReadyH.cons (by simp; rfl) (fun K hK => ?_) AllReadyH.nil
            go_simp
            (go_at_call 24; (with_reducible refine Calls.cE (same03C (by omega)) ?_); intros)
            refine hK.out _ _ inferInstance ?_
            clear hHeld hK K
            intro hHeld
            try simp only [Act.put, List.setIfInBounds_toArray, List.set_cons_zero, List.set_cons_succ]
            refine wpAnyH_take (i := 10) (v := ?z40) (by simp; rfl) (by kernel_rfl) (by kernel_rfl) (by kernel_rfl) (by exact fun _ _ _ h => h) (Or.inl ⟨by rfl, ?yz40⟩) hHeld ?_
            case yz40 => (intro wx hSw; have hSx := Ex1.mk hSw; go_simp; (try with_reducible rfl))
            try simp only [Act.put, List.setIfInBounds_toArray, List.set_cons_zero, List.set_cons_succ]
            refine wpAnyH_take (i := 11) (v := ?z41) (by simp; rfl) (by kernel_rfl) (by kernel_rfl) (by kernel_rfl) (by exact fun _ _ _ h => h) (Or.inl ⟨by rfl, ?yz41⟩) hHeld ?_
            case yz41 => (intro wx hSw; have hSx := Ex1.mk hSw; go_simp; (try with_reducible rfl))
            try simp only [Act.put, List.setIfInBounds_toArray, List.set_cons_zero, List.set_cons_succ]
            refine wpAnyH_take (i := 12) (v := ?z42) (by simp; rfl) (by kernel_rfl) (by kernel_rfl) (by kernel_rfl) (by exact fun _ _ _ h => h) (Or.inl ⟨by rfl, ?yz42⟩) hHeld ?_
            case yz42 => (intro wx hSw; have hSx := Ex1.mk hSw; go_simp; (try with_reducible rfl))
            try simp only [Act.put, List.setIfInBounds_toArray, List.set_cons_zero, List.set_cons_succ]
            refine wpAnyH_take (i := 14) (v := ?z43) (by simp; rfl) (by kernel_rfl) (by kernel_rfl) (by kernel_rfl) (by exact fun _ _ _ h => h) (Or.inl ⟨by rfl, ?yz43⟩) hHeld ?_
            case yz43 => (intro wx hSw; have hSx := Ex1.mk hSw; go_simp; (try with_reducible rfl))
            try simp only [Act.put, List.setIfInBounds_toArray, List.set_cons_zero, List.set_cons_succ]
            refine wpAnyH_ready (rs := [13]) (by kernel_rfl) (by simp) ?_
            refine AllReadyH.cons (by simp; rfl) (fun K hK => ?_) AllReadyH.nil
            go_simp
            (go_at_call 26; (with_reducible refine Calls.cE (ratFormatC (by omega) (by omega) (by omega)) ?_); intros)
            refine hK.out _ _ inferInstance ?_
            clear hHeld hK K
            intro hHeld
            try simp only [Act.put, List.setIfInBounds_toArray, List.set_cons_zero, List.set_cons_succ]
            refine wpAnyH_ready (rs := [15]) (by kernel_rfl) (by simp) ?_
            refine AllReadyH.cons (by simp; rfl) (fun K hK => ?_) AllReadyH.nil
            go_simp
            (go_at_call 27; (with_reducible refine Calls.cQ (refQC (by omega)) ?_); intros)
            refine hK.out _ _ inferInstance ?_
            clear hHeld hK K
            intro hHeld
            try simp only [Act.put, List.setIfInBounds_toArray, List.set_cons_zero, List.set_cons_succ]
            refine wpAnyH_ready (rs := [16]) (by kernel_rfl) (by simp) ?_
            refine AllReadyH.cons (by simp; rfl) (fun K hK => ?_) AllReadyH.nil
            go_simp
            (go_at_call 28; (with_reducible refine Calls.cE (numFormatQ (by omega)) ?_); intros)
            refine hK.out _ _ inferInstance ?_
            clear hHeld hK K
            intro hHeld
            try simp only [Act.put, List.setIfInBounds_toArray, List.set_cons_zero, List.set_cons_succ]
            refine wpAnyH_take (i := 17) (v := ?z44) (by simp; rfl) (by kernel_rfl) (by kernel_rfl) (by kernel_rfl) (by exact fun _ _ _ h => h) (Or.inl ⟨by rfl, ?yz44⟩) hHeld ?_
            case yz44 => (intro wx hSw; have hSx := Ex1.mk hSw; go_simp; (try with_reducible rfl))
            try simp only [Act.put, List.setIfInBounds_toArray, List.set_cons_zero, List.set_cons_succ]
            refine wpAnyH_take (i := 18) (v := ?z45) (by simp; rfl) (by kernel_rfl) (by kernel_rfl) (by kernel_rfl) (by exact fun _ _ _ h => h) (Or.inl ⟨by rfl, ?yz45⟩) hHeld ?_
            case yz45 => (intro wx hSw; have hSx := Ex1.mk hSw; go_simp; (try with_reducible rfl))
            try simp only [Act.put, List.setIfInBounds_toArray, List.set_cons_zero, List.set_cons_succ]
            refine wpAnyH_take (i := 19) (v := ?z46) (by simp; rfl) (by kernel_rfl) (by kernel_rfl) (by kernel_rfl) (by exact fun _ _ _ h => h) (Or.inl ⟨by rfl, ?yz46⟩) hHeld ?_
            case yz46 => (intro wx hSw; have hSx := Ex1.mk hSw; go_simp; (try with_reducible rfl))
            try simp only [Act.put, List.setIfInBounds_toArray, List.set_cons_zero, List.set_cons_succ]
            refine wpAnyH_done (by kernel_rfl) ?_ _
            clear hHeld
            go_wp2
            go_ret
            exact E.fin rfl
          · have HD := Lib.hid hd
            clear hd
            go_enter Tryz.func4, Tryz.ntmps4
            go_wp2_with fail
            with_reducible refine Calls.kRat (rparse_00p s hne (by omega) HH.out ⟨HE.out, rfl⟩ ⟨HF.out, rfl⟩ HD.out) ?_
            intro W3 _ g3 a3 l3 c3 aa3 ll3 cc3 _
            go_wp2_with fail
            with_reducible refine Calls.kReadQ (readQ_s (by omega) HH.out HE.out (by decide) (z := iVal (cutL s.data.toList)) (by unfold iVal; rw [if_pos rfl]) HF.out (by decide) (d := bval (cutR s.data.toList)) (by rw [if_pos rfl]) (q := mkRat (iVal (cutL s.data.toList)) (bval (cutR s.data.toList))) (by rw [if_pos ⟨rfl, rfl, HD.out⟩]) (k := 0) (by rw [if_neg (by decide), if_neg HD.out])) ?_
            intro W4 _ g4 a4 l4 c4 aa4 ll4 cc4 _
            go_wp2_with fail
            with_reducible refine Calls.cE (same03C (by omega)) ?_
            intro W5 _
            go_wp2_with fail
            with_reducible refine Calls.cNew (newW (w0.keep (inferInstance : Kp w _).out)) ?_
            intro W6 _ _
            go_wp2_with fail
            with_reducible refine Calls.cTW rmadeC ?_
            intro W7 _ _ g7 a7 l7 c7 aa7 ll7 cc7 x i7
            obtain ⟨hb1, hb2⟩ := cw_dl i7 (t := 3000) (by omega) (by omega)
            have HSZ : Hid ((fmtQ x).size ≤ 1000000) := by have := fmtQ_size x; show _ ≤ _; omega
            go_wp2_with fail
            with_reducible refine Calls.cE (ratFormatC (by omega) (by omega) (by omega)) ?_
            intro W8 _
            go_wp2_with fail
            with_reducible refine Calls.kRat (parse_fmt hne HSZ.out (by omega) (by omega)) ?_
            intro W9 _ g9 a9 l9 c9 aa9 ll9 cc9 _
            go_wp2_with fail
            refine region_cls (by kernel_rfl) [] (fun hHeld => ?_)
            refine wpAnyH_ready (rs := [0]) (by kernel_rfl) (by simp) ?_
            refine AllReadyH.cons (by simp; rfl) (fun K hK => ?_) AllReadyH.nil
            go_simp
            (go_at_call 21; (with_reducible refine Calls.cE (known03C inferInstance inferInstance inferInstance hne) ?_); intros)
            refine hK.out _ _ inferInstance ?_
            clear hHeld hK K
            intro hHeld
            try simp only [Act.put, List.setIfInBounds_toArray, List.set_cons_zero, List.set_cons_succ]
            refine wpAnyH_take (i := 1) (v := ?z47) (by simp; rfl) (by kernel_rfl) (by kernel_rfl) (by kernel_rfl) (by exact fun _ _ _ h => h) (Or.inl ⟨by rfl, ?yz47⟩) hHeld ?_
            case yz47 => (intro wx hSw; have hSx := Ex1.mk hSw; go_simp; (try with_reducible rfl))
            try simp only [Act.put, List.setIfInBounds_toArray, List.set_cons_zero, List.set_cons_succ]
            refine wpAnyH_take (i := 2) (v := ?z48) (by simp; rfl) (by kernel_rfl) (by kernel_rfl) (by kernel_rfl) (by exact fun _ _ _ h => h) (Or.inl ⟨by rfl, ?yz48⟩) hHeld ?_
            case yz48 => (intro wx hSw; have hSx := Ex1.mk hSw; go_simp; (try with_reducible rfl))
            try simp only [Act.put, List.setIfInBounds_toArray, List.set_cons_zero, List.set_cons_succ]
            refine wpAnyH_take (i := 3) (v := ?z49) (by simp; rfl) (by kernel_rfl) (by kernel_rfl) (by kernel_rfl) (by exact fun _ _ _ h => h) (Or.inl ⟨by rfl, ?yz49⟩) hHeld ?_
            case yz49 => (intro wx hSw; have hSx := Ex1.mk hSw; go_simp; (try with_reducible rfl))
            try simp only [Act.put, List.setIfInBounds_toArray, List.set_cons_zero, List.set_cons_succ]
            refine wpAnyH_take (i := 4) (v := ?z50) (by simp; rfl) (by kernel_rfl) (by kernel_rfl) (by kernel_rfl) (by exact fun _ _ _ h => h) (Or.inl ⟨by rfl, ?yz50⟩) hHeld ?_
            case yz50 => (intro wx hSw; have hSx := Ex1.mk hSw; go_simp; (try with_reducible rfl))
            try simp only [Act.put, List.setIfInBounds_toArray, List.set_cons_zero, List.set_cons_succ]
            refine wpAnyH_take (i := 5) (v := ?z51) (by simp; rfl) (by kernel_rfl) (by kernel_rfl) (by kernel_rfl) (by exact fun _ _ _ h => h) (Or.inl ⟨by rfl, ?yz51⟩) hHeld ?_
            case yz51 => (intro wx hSw; have hSx := Ex1.mk hSw; go_simp; (try with_reducible rfl))
            try simp only [Act.put, List.setIfInBounds_toArray, List.set_cons_zero, List.set_cons_succ]
            refine wpAnyH_take (i := 6) (v := ?z52) (by simp; rfl) (by kernel_rfl) (by kernel_rfl) (by kernel_rfl) (by exact fun _ _ _ h => h) (Or.inl ⟨by rfl, ?yz52⟩) hHeld ?_
            case yz52 => (intro wx hSw; have hSx := Ex1.mk hSw; go_simp; (try with_reducible rfl))
            try simp only [Act.put, List.setIfInBounds_toArray, List.set_cons_zero, List.set_cons_succ]
            refine wpAnyH_take (i := 7) (v := ?z53) (by simp; rfl) (by kernel_rfl) (by kernel_rfl) (by kernel_rfl) (by exact fun _ _ _ h => h) (Or.inl ⟨by rfl, ?yz53⟩) hHeld ?_
            case yz53 => (intro wx hSw; have hSx := Ex1.mk hSw; go_simp; (try with_reducible rfl))
            try simp only [Act.put, List.setIfInBounds_toArray, List.set_cons_zero, List.set_cons_succ]
            refine wpAnyH_ready (rs := [8]) (by kernel_rfl) (by simp) ?_
            refine AllReadyH.cons (by simp; rfl) (fun K hK => ?_) AllReadyH.nil
            go_simp
            (go_at_call 27; (with_reducible refine Calls.cQ (refQC (by omega)) ?_); intros)
            refine hK.out _ _ inferInstance ?_
            clear hHeld hK K
            intro hHeld
            try simp only [Act.put, List.setIfInBounds_toArray, List.set_cons_zero, List.set_cons_succ]
            refine wpAnyH_ready (rs := [9]) (by kernel_rfl) (by simp) ?_
            refine AllReadyH.cons (by simp; rfl) (fun K hK => ?_) AllReadyH.nil
            go_simp
            (go_at_call 24; (with_reducible refine Calls.cE (same03C (by omega)) ?_); intros)
            refine hK.out _ _ inferInstance ?_
            clear hHeld hK K
            intro hHeld
            try simp only [Act.put, List.setIfInBounds_toArray, List.set_cons_zero, List.set_cons_succ]
            refine wpAnyH_take (i := 10) (v := ?z54) (by simp; rfl) (by kernel_rfl) (by kernel_rfl) (by kernel_rfl) (by exact fun _ _ _ h => h) (Or.inl ⟨by rfl, ?yz54⟩) hHeld ?_
            case yz54 => (intro wx hSw; have hSx := Ex1.mk hSw; go_simp; (try with_reducible rfl))
            try simp only [Act.put, List.setIfInBounds_toArray, List.set_cons_zero, List.set_cons_succ]
            refine wpAnyH_take (i := 11) (v := ?z55) (by simp; rfl) (by kernel_rfl) (by kernel_rfl) (by kernel_rfl) (by exact fun _ _ _ h => h) (Or.inl ⟨by rfl, ?yz55⟩) hHeld ?_
            case yz55 => (intro wx hSw; have hSx := Ex1.mk hSw; go_simp; (try with_reducible rfl))
            try simp only [Act.put, List.setIfInBounds_toArray, List.set_cons_zero, List.set_cons_succ]
            refine wpAnyH_take (i := 12) (v := ?z56) (by simp; rfl) (by kernel_rfl) (by kernel_rfl) (by kernel_rfl) (by exact fun _ _ _ h => h) (Or.inl ⟨by rfl, ?yz56⟩) hHeld ?_
            case yz56 => (intro wx hSw; have hSx := Ex1.mk hSw; go_simp; (try with_reducible rfl))
            try simp only [Act.put, List.setIfInBounds_toArray, List.set_cons_zero, List.set_cons_succ]
            refine wpAnyH_take (i := 14) (v := ?z57) (by simp; rfl) (by kernel_rfl) (by kernel_rfl) (by kernel_rfl) (by exact fun _ _ _ h => h) (Or.inl ⟨by rfl, ?yz57⟩) hHeld ?_
            case yz57 => (intro wx hSw; have hSx := Ex1.mk hSw; go_simp; (try with_reducible rfl))
            try simp only [Act.put, List.setIfInBounds_toArray, List.set_cons_zero, List.set_cons_succ]
            refine wpAnyH_ready (rs := [13]) (by kernel_rfl) (by simp) ?_
            refine AllReadyH.cons (by simp; rfl) (fun K hK => ?_) AllReadyH.nil
            go_simp
            (go_at_call 26; (with_reducible refine Calls.cE (ratFormatC (by omega) (by omega) (by omega)) ?_); intros)
            refine hK.out _ _ inferInstance ?_
            clear hHeld hK K
            intro hHeld
            try simp only [Act.put, List.setIfInBounds_toArray, List.set_cons_zero, List.set_cons_succ]
            refine wpAnyH_ready (rs := [15]) (by kernel_rfl) (by simp) ?_
            refine AllReadyH.cons (by simp; rfl) (fun K hK => ?_) AllReadyH.nil
            go_simp
            (go_at_call 27; (with_reducible refine Calls.cQ (refQC (by omega)) ?_); intros)
            refine hK.out _ _ inferInstance ?_
            clear hHeld hK K
            intro hHeld
            try simp only [Act.put, List.setIfInBounds_toArray, List.set_cons_zero, List.set_cons_succ]
            refine wpAnyH_ready (rs := [16]) (by kernel_rfl) (by simp) ?_
            refine AllReadyH.cons (by simp; rfl) (fun K hK => ?_) AllReadyH.nil
            go_simp
            (go_at_call 28; (with_reducible refine Calls.cE (numFormatQ (by omega)) ?_); intros)
            refine hK.out _ _ inferInstance ?_
            clear hHeld hK K
            intro hHeld
            try simp only [Act.put, List.setIfInBounds_toArray, List.set_cons_zero, List.set_cons_succ]
            refine wpAnyH_take (i := 17) (v := ?z58) (by simp; rfl) (by kernel_rfl) (by kernel_rfl) (by kernel_rfl) (by exact fun _ _ _ h => h) (Or.inl ⟨by rfl, ?yz58⟩) hHeld ?_
            case yz58 => (intro wx hSw; have hSx := Ex1.mk hSw; go_simp; (try with_reducible rfl))
            try simp only [Act.put, List.setIfInBounds_toArray, List.set_cons_zero, List.set_cons_succ]
            refine wpAnyH_take (i := 18) (v := ?z59) (by simp; rfl) (by kernel_rfl) (by kernel_rfl) (by kernel_rfl) (by exact fun _ _ _ h => h) (Or.inl ⟨by rfl, ?yz59⟩) hHeld ?_
            case yz59 => (intro wx hSw; have hSx := Ex1.mk hSw; go_simp; (try with_reducible rfl))
            try simp only [Act.put, List.setIfInBounds_toArray, List.set_cons_zero, List.set_cons_succ]
            refine wpAnyH_take (i := 19) (v := ?z60) (by simp; rfl) (by kernel_rfl) (by kernel_rfl) (by kernel_rfl) (by exact fun _ _ _ h => h) (Or.inl ⟨by rfl, ?yz60⟩) hHeld ?_
            case yz60 => (intro wx hSw; have hSx := Ex1.mk hSw; go_simp; (try with_reducible rfl))
            try simp only [Act.put, List.setIfInBounds_toArray, List.set_cons_zero, List.set_cons_succ]
            refine wpAnyH_done (by kernel_rfl) ?_ _
            clear hHeld
            go_wp2
            go_ret
            exact E.fin rfl
        · have HF := Lib.hid hf
          clear hf
          go_enter Tryz.func4, Tryz.ntmps4
          go_wp2_with fail
          with_reducible refine Calls.kErr (rparse_01 s hne (by omega) HH.out ⟨HE.out, rfl⟩ HF.out) ?_
          intro W3 _ b3 t3 _ _
          go_wp2_with fail
          with_reducible refine Calls.kReadQ (readQ_s (by omega) HH.out HE.out (by decide) (rfl) HF.out (by decide) (rfl) (rfl) (rfl)) ?_
          intro W4 _ g4 a4 l4 c4 aa4 ll4 cc4 _
          go_wp2_with fail
          refine isSameC.mono ?_
          rintro e W5 ⟨rfl, rfl⟩
          go_wp2_with fail
          with_reducible refine Calls.cE (sameQ0) ?_
          intro W5 _
          go_wp2_with fail
          with_reducible refine Calls.cNew (newW (w0.keep (inferInstance : Kp w _).out)) ?_
          intro W6 _ _
          go_wp2_with fail
          with_reducible refine Calls.cTW rmadeC ?_
          intro W7 _ _ g7 a7 l7 c7 aa7 ll7 cc7 x i7
          obtain ⟨hb1, hb2⟩ := cw_dl i7 (t := 3000) (by omega) (by omega)
          have HSZ : Hid ((fmtQ x).size ≤ 1000000) := by have := fmtQ_size x; show _ ≤ _; omega
          go_wp2_with fail
          with_reducible refine Calls.cE (ratFormatC (by omega) (by omega) (by omega)) ?_
          intro W8 _
          go_wp2_with fail
          with_reducible refine Calls.kRat (parse_fmt hne HSZ.out (by omega) (by omega)) ?_
          intro W9 _ g9 a9 l9 c9 aa9 ll9 cc9 _
          go_wp2_with fail
          refine region_cls (by kernel_rfl) [] (fun hHeld => ?_)
          refine wpAnyH_ready (rs := [0]) (by kernel_rfl) (by simp) ?_
          refine AllReadyH.cons (by simp; rfl) (fun K hK => ?_) AllReadyH.nil
          go_simp
          (go_at_call 21; (with_reducible refine Calls.cE (known03C inferInstance inferInstance inferInstance hne) ?_); intros)
          refine hK.out _ _ inferInstance ?_
          clear hHeld hK K
          intro hHeld
          try simp only [Act.put, List.setIfInBounds_toArray, List.set_cons_zero, List.set_cons_succ]
          refine wpAnyH_take (i := 1) (v := ?z61) (by simp; rfl) (by kernel_rfl) (by kernel_rfl) (by kernel_rfl) (by exact fun _ _ _ h => h) (Or.inl ⟨by rfl, ?yz61⟩) hHeld ?_
          case yz61 => (intro wx hSw; have hSx := Ex1.mk hSw; go_simp; (try with_reducible rfl))
          try simp only [Act.put, List.setIfInBounds_toArray, List.set_cons_zero, List.set_cons_succ]
          refine wpAnyH_take (i := 2) (v := ?z62) (by simp; rfl) (by kernel_rfl) (by kernel_rfl) (by kernel_rfl) (by exact fun _ _ _ h => h) (Or.inl ⟨by rfl, ?yz62⟩) hHeld ?_
          case yz62 => (intro wx hSw; have hSx := Ex1.mk hSw; go_simp; (try with_reducible rfl))
          try simp only [Act.put, List.setIfInBounds_toArray, List.set_cons_zero, List.set_cons_succ]
          refine wpAnyH_take (i := 3) (v := ?z63) (by simp; rfl) (by kernel_rfl) (by kernel_rfl) (by kernel_rfl) (by exact fun _ _ _ h => h) (Or.inl ⟨by rfl, ?yz63⟩) hHeld ?_
          case yz63 => (intro wx hSw; have hSx := Ex1.mk hSw; go_simp; (try with_reducible rfl))
          try simp only [Act.put, List.setIfInBounds_toArray, List.set_cons_zero, List.set_cons_succ]
          refine wpAnyH_take (i := 4) (v := ?z64) (by simp; rfl) (by kernel_rfl) (by kernel_rfl) (by kernel_rfl) (by exact fun _ _ _ h => h) (Or.inl ⟨by rfl, ?yz64⟩) hHeld ?_
          case yz64 => (intro wx hSw; have hSx := Ex1.mk hSw; go_simp; (try with_reducible rfl))
          try simp only [Act.put, List.setIfInBounds_toArray, List.set_cons_zero, List.set_cons_succ]
          refine wpAnyH_take (i := 5) (v := ?z65) (by simp; rfl) (by kernel_rfl) (by kernel_rfl) (by kernel_rfl) (by exact fun _ _ _ h => h) (Or.inl ⟨by rfl, ?yz65⟩) hHeld ?_
          case yz65 => (intro wx hSw; have hSx := Ex1.mk hSw; go_simp; (try with_reducible rfl))
          try simp only [Act.put, List.setIfInBounds_toArray, List.set_cons_zero, List.set_cons_succ]
          refine wpAnyH_take (i := 6) (v := ?z66) (by simp; rfl) (by kernel_rfl) (by kernel_rfl) (by kernel_rfl) (by exact fun _ _ _ h => h) (Or.inl ⟨by rfl, ?yz66⟩) hHeld ?_
          case yz66 => (intro wx hSw; have hSx := Ex1.mk hSw; go_simp; (try with_reducible rfl))
          try simp only [Act.put, List.setIfInBounds_toArray, List.set_cons_zero, List.set_cons_succ]
          refine wpAnyH_take (i := 7) (v := ?z67) (by simp; rfl) (by kernel_rfl) (by kernel_rfl) (by kernel_rfl) (by exact fun _ _ _ h => h) (Or.inl ⟨by rfl, ?yz67⟩) hHeld ?_
          case yz67 => (intro wx hSw; have hSx := Ex1.mk hSw; go_simp; (try with_reducible rfl))
          try simp only [Act.put, List.setIfInBounds_toArray, List.set_cons_zero, List.set_cons_succ]
          refine wpAnyH_ready (rs := [8]) (by kernel_rfl) (by simp) ?_
          refine AllReadyH.cons (by simp; rfl) (fun K hK => ?_) AllReadyH.nil
          go_simp
          (go_at_call 27; (with_reducible refine Calls.cQ (refQC (by omega)) ?_); intros)
          refine hK.out _ _ inferInstance ?_
          clear hHeld hK K
          intro hHeld
          try simp only [Act.put, List.setIfInBounds_toArray, List.set_cons_zero, List.set_cons_succ]
          refine wpAnyH_ready (rs := [9]) (by kernel_rfl) (by simp) ?_
          refine AllReadyH.cons (by simp; rfl) (fun K hK => ?_) AllReadyH.nil
          go_simp
          (go_at_call 24; (with_reducible refine Calls.cE (same03C (by omega)) ?_); intros)
          refine hK.out _ _ inferInstance ?_
          clear hHeld hK K
          intro hHeld
          try simp only [Act.put, List.setIfInBounds_toArray, List.set_cons_zero, List.set_cons_succ]
          refine wpAnyH_take (i := 10) (v := ?z68) (by simp; rfl) (by kernel_rfl) (by kernel_rfl) (by kernel_rfl) (by exact fun _ _ _ h => h) (Or.inl ⟨by rfl, ?yz68⟩) hHeld ?_
          case yz68 => (intro wx hSw; have hSx := Ex1.mk hSw; go_simp; (try with_reducible rfl))
          try simp only [Act.put, List.setIfInBounds_toArray, List.set_cons_zero, List.set_cons_succ]
          refine wpAnyH_take (i := 11) (v := ?z69) (by simp; rfl) (by kernel_rfl) (by kernel_rfl) (by kernel_rfl) (by exact fun _ _ _ h => h) (Or.inl ⟨by rfl, ?yz69⟩) hHeld ?_
          case yz69 => (intro wx hSw; have hSx := Ex1.mk hSw; go_simp; (try with_reducible rfl))
          try simp only [Act.put, List.setIfInBounds_toArray, List.set_cons_zero, List.set_cons_succ]
          refine wpAnyH_take (i := 12) (v := ?z70) (by simp; rfl) (by kernel_rfl) (by kernel_rfl) (by kernel_rfl) (by exact fun _ _ _ h => h) (Or.inl ⟨by rfl, ?yz70⟩) hHeld ?_
          case yz70 => (intro wx hSw; have hSx := Ex1.mk hSw; go_simp; (try with_reducible rfl))
          try simp only [Act.put, List.setIfInBounds_toArray, List.set_cons_zero, List.set_cons_succ]
          refine wpAnyH_take (i := 14) (v := ?z71) (by simp; rfl) (by kernel_rfl) (by kernel_rfl) (by kernel_rfl) (by exact fun _ _ _ h => h) (Or.inl ⟨by rfl, ?yz71⟩) hHeld ?_
          case yz71 => (intro wx hSw; have hSx := Ex1.mk hSw; go_simp; (try with_reducible rfl))
          try simp only [Act.put, List.setIfInBounds_toArray, List.set_cons_zero, List.set_cons_succ]
          refine wpAnyH_ready (rs := [13]) (by kernel_rfl) (by simp) ?_
          refine AllReadyH.cons (by simp; rfl) (fun K hK => ?_) AllReadyH.nil
          go_simp
          (go_at_call 26; (with_reducible refine Calls.cE (ratFormatC (by omega) (by omega) (by omega)) ?_); intros)
          refine hK.out _ _ inferInstance ?_
          clear hHeld hK K
          intro hHeld
          try simp only [Act.put, List.setIfInBounds_toArray, List.set_cons_zero, List.set_cons_succ]
          refine wpAnyH_ready (rs := [15]) (by kernel_rfl) (by simp) ?_
          refine AllReadyH.cons (by simp; rfl) (fun K hK => ?_) AllReadyH.nil
          go_simp
          (go_at_call 27; (with_reducible refine Calls.cQ (refQC (by omega)) ?_); intros)
          refine hK.out _ _ inferInstance ?_
          clear hHeld hK K
          intro hHeld
          try simp only [Act.put, List.setIfInBounds_toArray, List.set_cons_zero, List.set_cons_succ]
          refine wpAnyH_ready (rs := [16]) (by kernel_rfl) (by simp) ?_
          refine AllReadyH.cons (by simp; rfl) (fun K hK => ?_) AllReadyH.nil
          go_simp
          (go_at_call 28; (with_reducible refine Calls.cE (numFormatQ (by omega)) ?_); intros)
          refine hK.out _ _ inferInstance ?_
          clear hHeld hK K
          intro hHeld
          try simp only [Act.put, List.setIfInBounds_toArray, List.set_cons_zero, List.set_cons_succ]
          refine wpAnyH_take (i := 17) (v := ?z72) (by simp; rfl) (by kernel_rfl) (by kernel_rfl) (by kernel_rfl) (by exact fun _ _ _ h => h) (Or.inl ⟨by rfl, ?yz72⟩) hHeld ?_
          case yz72 => (intro wx hSw; have hSx := Ex1.mk hSw; go_simp; (try with_reducible rfl))
          try simp only [Act.put, List.setIfInBounds_toArray, List.set_cons_zero, List.set_cons_succ]
          refine wpAnyH_take (i := 18) (v := ?z73) (by simp; rfl) (by kernel_rfl) (by kernel_rfl) (by kernel_rfl) (by exact fun _ _ _ h => h) (Or.inl ⟨by rfl, ?yz73⟩) hHeld ?_
          case yz73 => (intro wx hSw; have hSx := Ex1.mk hSw; go_simp; (try with_reducible rfl))
          try simp only [Act.put, List.setIfInBounds_toArray, List.set_cons_zero, List.set_cons_succ]
          refine wpAnyH_take (i := 19) (v := ?z74) (by simp; rfl) (by kernel_rfl) (by kernel_rfl) (by kernel_rfl) (by exact fun _ _ _ h => h) (Or.inl ⟨by rfl, ?yz74⟩) hHeld ?_
          case yz74 => (intro wx hSw; have hSx := Ex1.mk hSw; go_simp; (try with_reducible rfl))
          try simp only [Act.put, List.setIfInBounds_toArray, List.set_cons_zero, List.set_cons_succ]
          refine wpAnyH_done (by kernel_rfl) ?_ _
          clear hHeld
          go_wp2
          go_ret
          exact E.fin rfl
      · have HE := Lib.hid he
        clear he
        rcases hf with hf | hf
        · have HF := Lib.hid hf
          clear hf
          go_enter Tryz.func4, Tryz.ntmps4
          go_wp2_with fail
          with_reducible refine Calls.kErr (rparse_10 s hne (by omega) HH.out HE.out ⟨HF.out, rfl⟩) ?_
          intro W3 _ b3 t3 _ _
          go_wp2_with fail
          with_reducible refine Calls.kReadQ (readQ_s (by omega) HH.out HE.out (by decide) (rfl) HF.out (by decide) (rfl) (rfl) (rfl)) ?_
          intro W4 _ g4 a4 l4 c4 aa4 ll4 cc4 _
          go_wp2_with fail
          refine isSameC.mono ?_
          rintro e W5 ⟨rfl, rfl⟩
          go_wp2_with fail
          with_reducible refine Calls.cE (sameQ0) ?_
          intro W5 _
          go_wp2_with fail
          with_reducible refine Calls.cNew (newW (w0.keep (inferInstance : Kp w _).out)) ?_
          intro W6 _ _
          go_wp2_with fail
          with_reducible refine Calls.cTW rmadeC ?_
          intro W7 _ _ g7 a7 l7 c7 aa7 ll7 cc7 x i7
          obtain ⟨hb1, hb2⟩ := cw_dl i7 (t := 3000) (by omega) (by omega)
          have HSZ : Hid ((fmtQ x).size ≤ 1000000) := by have := fmtQ_size x; show _ ≤ _; omega
          go_wp2_with fail
          with_reducible refine Calls.cE (ratFormatC (by omega) (by omega) (by omega)) ?_
          intro W8 _
          go_wp2_with fail
          with_reducible refine Calls.kRat (parse_fmt hne HSZ.out (by omega) (by omega)) ?_
          intro W9 _ g9 a9 l9 c9 aa9 ll9 cc9 _
          go_wp2_with fail
          refine region_cls (by kernel_rfl) [] (fun hHeld => ?_)
          refine wpAnyH_ready (rs := [0]) (by kernel_rfl) (by simp) ?_
          refine AllReadyH.cons (by simp; rfl) (fun K hK => ?_) AllReadyH.nil
          go_simp
          (go_at_call 21; (with_reducible refine Calls.cE (known03C inferInstance inferInstance inferInstance hne) ?_); intros)
          refine hK.out _ _ inferInstance ?_
          clear hHeld hK K
          intro hHeld
          try simp only [Act.put, List.setIfInBounds_toArray, List.set_cons_zero, List.set_cons_succ]
          refine wpAnyH_take (i := 1) (v := ?z75) (by simp; rfl) (by kernel_rfl) (by kernel_rfl) (by kernel_rfl) (by exact fun _ _ _ h => h) (Or.inl ⟨by rfl, ?yz75⟩) hHeld ?_
          case yz75 => (intro wx hSw; have hSx := Ex1.mk hSw; go_simp; (try with_reducible rfl))
          try simp only [Act.put, List.setIfInBounds_toArray, List.set_cons_zero, List.set_cons_succ]
          refine wpAnyH_take (i := 2) (v := ?z76) (by simp; rfl) (by kernel_rfl) (by kernel_rfl) (by kernel_rfl) (by exact fun _ _ _ h => h) (Or.inl ⟨by rfl, ?yz76⟩) hHeld ?_
          case yz76 => (intro wx hSw; have hSx := Ex1.mk hSw; go_simp; (try with_reducible rfl))
          try simp only [Act.put, List.setIfInBounds_toArray, List.set_cons_zero, List.set_cons_succ]
          refine wpAnyH_take (i := 3) (v := ?z77) (by simp; rfl) (by kernel_rfl) (by kernel_rfl) (by kernel_rfl) (by exact fun _ _ _ h => h) (Or.inl ⟨by rfl, ?yz77⟩) hHeld ?_
          case yz77 => (intro wx hSw; have hSx := Ex1.mk hSw; go_simp; (try with_reducible rfl))
          try simp only [Act.put, List.setIfInBounds_toArray, List.set_cons_zero, List.set_cons_succ]
          refine wpAnyH_take (i := 4) (v := ?z78) (by simp; rfl) (by kernel_rfl) (by kernel_rfl) (by kernel_rfl) (by exact fun _ _ _ h => h) (Or.inl ⟨by rfl, ?yz78⟩) hHeld ?_
          case yz78 => (intro wx hSw; have hSx := Ex1.mk hSw; go_simp; (try with_reducible rfl))
          try simp only [Act.put, List.setIfInBounds_toArray, List.set_cons_zero, List.set_cons_succ]
          refine wpAnyH_take (i := 5) (v := ?z79) (by simp; rfl) (by kernel_rfl) (by kernel_rfl) (by kernel_rfl) (by exact fun _ _ _ h => h) (Or.inl ⟨by rfl, ?yz79⟩) hHeld ?_
          case yz79 => (intro wx hSw; have hSx := Ex1.mk hSw; go_simp; (try with_reducible rfl))
          try simp only [Act.put, List.setIfInBounds_toArray, List.set_cons_zero, List.set_cons_succ]
          refine wpAnyH_take (i := 6) (v := ?z80) (by simp; rfl) (by kernel_rfl) (by kernel_rfl) (by kernel_rfl) (by exact fun _ _ _ h => h) (Or.inl ⟨by rfl, ?yz80⟩) hHeld ?_
          case yz80 => (intro wx hSw; have hSx := Ex1.mk hSw; go_simp; (try with_reducible rfl))
          try simp only [Act.put, List.setIfInBounds_toArray, List.set_cons_zero, List.set_cons_succ]
          refine wpAnyH_take (i := 7) (v := ?z81) (by simp; rfl) (by kernel_rfl) (by kernel_rfl) (by kernel_rfl) (by exact fun _ _ _ h => h) (Or.inl ⟨by rfl, ?yz81⟩) hHeld ?_
          case yz81 => (intro wx hSw; have hSx := Ex1.mk hSw; go_simp; (try with_reducible rfl))
          try simp only [Act.put, List.setIfInBounds_toArray, List.set_cons_zero, List.set_cons_succ]
          refine wpAnyH_ready (rs := [8]) (by kernel_rfl) (by simp) ?_
          refine AllReadyH.cons (by simp; rfl) (fun K hK => ?_) AllReadyH.nil
          go_simp
          (go_at_call 27; (with_reducible refine Calls.cQ (refQC (by omega)) ?_); intros)
          refine hK.out _ _ inferInstance ?_
          clear hHeld hK K
          intro hHeld
          try simp only [Act.put, List.setIfInBounds_toArray, List.set_cons_zero, List.set_cons_succ]
          refine wpAnyH_ready (rs := [9]) (by kernel_rfl) (by simp) ?_
          refine AllReadyH.cons (by simp; rfl) (fun K hK => ?_) AllReadyH.nil
          go_simp
          (go_at_call 24; (with_reducible refine Calls.cE (same03C (by omega)) ?_); intros)
          refine hK.out _ _ inferInstance ?_
          clear hHeld hK K
          intro hHeld
          try simp only [Act.put, List.setIfInBounds_toArray, List.set_cons_zero, List.set_cons_succ]
          refine wpAnyH_take (i := 10) (v := ?z82) (by simp; rfl) (by kernel_rfl) (by kernel_rfl) (by kernel_rfl) (by exact fun _ _ _ h => h) (Or.inl ⟨by rfl, ?yz82⟩) hHeld ?_
          case yz82 => (intro wx hSw; have hSx := Ex1.mk hSw; go_simp; (try with_reducible rfl))
          try simp only [Act.put, List.setIfInBounds_toArray, List.set_cons_zero, List.set_cons_succ]
          refine wpAnyH_take (i := 11) (v := ?z83) (by simp; rfl) (by kernel_rfl) (by kernel_rfl) (by kernel_rfl) (by exact fun _ _ _ h => h) (Or.inl ⟨by rfl, ?yz83⟩) hHeld ?_
          case yz83 => (intro wx hSw; have hSx := Ex1.mk hSw; go_simp; (try with_reducible rfl))
          try simp only [Act.put, List.setIfInBounds_toArray, List.set_cons_zero, List.set_cons_succ]
          refine wpAnyH_take (i := 12) (v := ?z84) (by simp; rfl) (by kernel_rfl) (by kernel_rfl) (by kernel_rfl) (by exact fun _ _ _ h => h) (Or.inl ⟨by rfl, ?yz84⟩) hHeld ?_
          case yz84 => (intro wx hSw; have hSx := Ex1.mk hSw; go_simp; (try with_reducible rfl))
          try simp only [Act.put, List.setIfInBounds_toArray, List.set_cons_zero, List.set_cons_succ]
          refine wpAnyH_take (i := 14) (v := ?z85) (by simp; rfl) (by kernel_rfl) (by kernel_rfl) (by kernel_rfl) (by exact fun _ _ _ h => h) (Or.inl ⟨by rfl, ?yz85⟩) hHeld ?_
          case yz85 => (intro wx hSw; have hSx := Ex1.mk hSw; go_simp; (try with_reducible rfl))
          try simp only [Act.put, List.setIfInBounds_toArray, List.set_cons_zero, List.set_cons_succ]
          refine wpAnyH_ready (rs := [13]) (by kernel_rfl) (by simp) ?_
          refine AllReadyH.cons (by simp; rfl) (fun K hK => ?_) AllReadyH.nil
          go_simp
          (go_at_call 26; (with_reducible refine Calls.cE (ratFormatC (by omega) (by omega) (by omega)) ?_); intros)
          refine hK.out _ _ inferInstance ?_
          clear hHeld hK K
          intro hHeld
          try simp only [Act.put, List.setIfInBounds_toArray, List.set_cons_zero, List.set_cons_succ]
          refine wpAnyH_ready (rs := [15]) (by kernel_rfl) (by simp) ?_
          refine AllReadyH.cons (by simp; rfl) (fun K hK => ?_) AllReadyH.nil
          go_simp
          (go_at_call 27; (with_reducible refine Calls.cQ (refQC (by omega)) ?_); intros)
          refine hK.out _ _ inferInstance ?_
          clear hHeld hK K
          intro hHeld
          try simp only [Act.put, List.setIfInBounds_toArray, List.set_cons_zero, List.set_cons_succ]
          refine wpAnyH_ready (rs := [16]) (by kernel_rfl) (by simp) ?_
          refine AllReadyH.cons (by simp; rfl) (fun K hK => ?_) AllReadyH.nil
          go_simp
          (go_at_call 28; (with_reducible refine Calls.cE (numFormatQ (by omega)) ?_); intros)
          refine hK.out _ _ inferInstance ?_
          clear hHeld hK K
          intro hHeld
          try simp only [Act.put, List.setIfInBounds_toArray, List.set_cons_zero, List.set_cons_succ]
          refine wpAnyH_take (i := 17) (v := ?z86) (by simp; rfl) (by kernel_rfl) (by kernel_rfl) (by kernel_rfl) (by exact fun _ _ _ h => h) (Or.inl ⟨by rfl, ?yz86⟩) hHeld ?_
          case yz86 => (intro wx hSw; have hSx := Ex1.mk hSw; go_simp; (try with_reducible rfl))
          try simp only [Act.put, List.setIfInBounds_toArray, List.set_cons_zero, List.set_cons_succ]
          refine wpAnyH_take (i := 18) (v := ?z87) (by simp; rfl) (by kernel_rfl) (by kernel_rfl) (by kernel_rfl) (by exact fun _ _ _ h => h) (Or.inl ⟨by rfl, ?yz87⟩) hHeld ?_
          case yz87 => (intro wx hSw; have hSx := Ex1.mk hSw; go_simp; (try with_reducible rfl))
          try simp only [Act.put, List.setIfInBounds_toArray, List.set_cons_zero, List.set_cons_succ]
          refine wpAnyH_take (i := 19) (v := ?z88) (by simp; rfl) (by kernel_rfl) (by kernel_rfl) (by kernel_rfl) (by exact fun _ _ _ h => h) (Or.inl ⟨by rfl, ?yz88⟩) hHeld ?_
          case yz88 => (intro wx hSw; have hSx := Ex1.mk hSw; go_simp; (try with_reducible rfl))
          try simp only [Act.put, List.setIfInBounds_toArray, List.set_cons_zero, List.set_cons_succ]
          refine wpAnyH_done (by kernel_rfl) ?_ _
          clear hHeld
          go_wp2
          go_ret
          exact E.fin rfl
        · have HF := Lib.hid hf
          clear hf
          go_enter Tryz.func4, Tryz.ntmps4
          go_wp2_with fail
          with_reducible refine Calls.kErr (rparse_11 s hne (by omega) HH.out HE.out HF.out) ?_
          intro W3 _ b3 t3 _ _
          go_wp2_with fail
          with_reducible refine Calls.kReadQ (readQ_s (by omega) HH.out HE.out (by decide) (rfl) HF.out (by decide) (rfl) (rfl) (rfl)) ?_
          intro W4 _ g4 a4 l4 c4 aa4 ll4 cc4 _
          go_wp2_with fail
          refine isSameC.mono ?_
          rintro e W5 ⟨rfl, rfl⟩
          go_wp2_with fail
          with_reducible refine Calls.cE (sameQ0) ?_
          intro W5 _
          go_wp2_with fail
          with_reducible refine Calls.cNew (newW (w0.keep (inferInstance : Kp w _).out)) ?_
          intro W6 _ _
          go_wp2_with fail
          with_reducible refine Calls.cTW rmadeC ?_
          intro W7 _ _ g7 a7 l7 c7 aa7 ll7 cc7 x i7
          obtain ⟨hb1, hb2⟩ := cw_dl i7 (t := 3000) (by omega) (by omega)
          have HSZ : Hid ((fmtQ x).size ≤ 1000000) := by have := fmtQ_size x; show _ ≤ _; omega
          go_wp2_with fail
          with_reducible refine Calls.cE (ratFormatC (by omega) (by omega) (by omega)) ?_
          intro W8 _
          go_wp2_with fail
          with_reducible refine Calls.kRat (parse_fmt hne HSZ.out (by omega) (by omega)) ?_
          intro W9 _ g9 a9 l9 c9 aa9 ll9 cc9 _
          go_wp2_with fail
          refine region_cls (by kernel_rfl) [] (fun hHeld => ?_)
          refine wpAnyH_ready (rs := [0]) (by kernel_rfl) (by simp) ?_
          refine AllReadyH.cons (by simp; rfl) (fun K hK => ?_) AllReadyH.nil
          go_simp
          (go_at_call 21; (with_reducible refine Calls.cE (known03C inferInstance inferInstance inferInstance hne) ?_); intros)
          refine hK.out _ _ inferInstance ?_
          clear hHeld hK K
          intro hHeld
          try simp only [Act.put, List.setIfInBounds_toArray, List.set_cons_zero, List.set_cons_succ]
          refine wpAnyH_take (i := 1) (v := ?z89) (by simp; rfl) (by kernel_rfl) (by kernel_rfl) (by kernel_rfl) (by exact fun _ _ _ h => h) (Or.inl ⟨by rfl, ?yz89⟩) hHeld ?_
          case yz89 => (intro wx hSw; have hSx := Ex1.mk hSw; go_simp; (try with_reducible rfl))
          try simp only [Act.put, List.setIfInBounds_toArray, List.set_cons_zero, List.set_cons_succ]
          refine wpAnyH_take (i := 2) (v := ?z90) (by simp; rfl) (by kernel_rfl) (by kernel_rfl) (by kernel_rfl) (by exact fun _ _ _ h => h) (Or.inl ⟨by rfl, ?yz90⟩) hHeld ?_
          case yz90 => (intro wx hSw; have hSx := Ex1.mk hSw; go_simp; (try with_reducible rfl))
          try simp only [Act.put, List.setIfInBounds_toArray, List.set_cons_zero, List.set_cons_succ]
          refine wpAnyH_take (i := 3) (v := ?z91) (by simp; rfl) (by kernel_rfl) (by kernel_rfl) (by kernel_rfl) (by exact fun _ _ _ h => h) (Or.inl ⟨by rfl, ?yz91⟩) hHeld ?_
          case yz91 => (intro wx hSw; have hSx := Ex1.mk hSw; go_simp; (try with_reducible rfl))
          try simp only [Act.put, List.setIfInBounds_toArray, List.set_cons_zero, List.set_cons_succ]
          refine wpAnyH_take (i := 4) (v := ?z92) (by simp; rfl) (by kernel_rfl) (by kernel_rfl) (by kernel_rfl) (by exact fun _ _ _ h => h) (Or.inl ⟨by rfl, ?yz92⟩) hHeld ?_
          case yz92 => (intro wx hSw; have hSx := Ex1.mk hSw; go_simp; (try with_reducible rfl))
          try simp only [Act.put, List.setIfInBounds_toArray, List.set_cons_zero, List.set_cons_succ]
          refine wpAnyH_take (i := 5) (v := ?z93) (by simp; rfl) (by kernel_rfl) (by kernel_rfl) (by kernel_rfl) (by exact fun _ _ _ h => h) (Or.inl ⟨by rfl, ?yz93⟩) hHeld ?_
          case yz93 => (intro wx hSw; have hSx := Ex1.mk hSw; go_simp; (try with_reducible rfl))
          try simp only [Act.put, List.setIfInBounds_toArray, List.set_cons_zero, List.set_cons_succ]
          refine wpAnyH_take (i := 6) (v := ?z94) (by simp; rfl) (by kernel_rfl) (by kernel_rfl) (by kernel_rfl) (by exact fun _ _ _ h => h) (Or.inl ⟨by rfl, ?yz94⟩) hHeld ?_
          case yz94 => (intro wx hSw; have hSx := Ex1.mk hSw; go_simp; (try with_reducible rfl))
          try simp only [Act.put, List.setIfInBounds_toArray, List.set_cons_zero, List.set_cons_succ]
          refine wpAnyH_take (i := 7) (v := ?z95) (by simp; rfl) (by kernel_rfl) (by kernel_rfl) (by kernel_rfl) (by exact fun _ _ _ h => h) (Or.inl ⟨by rfl, ?yz95⟩) hHeld ?_
          case yz95 => (intro wx hSw; have hSx := Ex1.mk hSw; go_simp; (try with_reducible rfl))
          try simp only [Act.put, List.setIfInBounds_toArray, List.set_cons_zero, List.set_cons_succ]
          refine wpAnyH_ready (rs := [8]) (by kernel_rfl) (by simp) ?_
          refine AllReadyH.cons (by simp; rfl) (fun K hK => ?_) AllReadyH.nil
          go_simp
          (go_at_call 27; (with_reducible refine Calls.cQ (refQC (by omega)) ?_); intros)
          refine hK.out _ _ inferInstance ?_
          clear hHeld hK K
          intro hHeld
          try simp only [Act.put, List.setIfInBounds_toArray, List.set_cons_zero, List.set_cons_succ]
          refine wpAnyH_ready (rs := [9]) (by kernel_rfl) (by simp) ?_
          refine AllReadyH.cons (by simp; rfl) (fun K hK => ?_) AllReadyH.nil
          go_simp
          (go_at_call 24; (with_reducible refine Calls.cE (same03C (by omega)) ?_); intros)
          refine hK.out _ _ inferInstance ?_
          clear hHeld hK K
          intro hHeld
          try simp only [Act.put, List.setIfInBounds_toArray, List.set_cons_zero, List.set_cons_succ]
          refine wpAnyH_take (i := 10) (v := ?z96) (by simp; rfl) (by kernel_rfl) (by kernel_rfl) (by kernel_rfl) (by exact fun _ _ _ h => h) (Or.inl ⟨by rfl, ?yz96⟩) hHeld ?_
          case yz96 => (intro wx hSw; have hSx := Ex1.mk hSw; go_simp; (try with_reducible rfl))
          try simp only [Act.put, List.setIfInBounds_toArray, List.set_cons_zero, List.set_cons_succ]
          refine wpAnyH_take (i := 11) (v := ?z97) (by simp; rfl) (by kernel_rfl) (by kernel_rfl) (by kernel_rfl) (by exact fun _ _ _ h => h) (Or.inl ⟨by rfl, ?yz97⟩) hHeld ?_
          case yz97 => (intro wx hSw; have hSx := Ex1.mk hSw; go_simp; (try with_reducible rfl))
          try simp only [Act.put, List.setIfInBounds_toArray, List.set_cons_zero, List.set_cons_succ]
          refine wpAnyH_take (i := 12) (v := ?z98) (by simp; rfl) (by kernel_rfl) (by kernel_rfl) (by kernel_rfl) (by exact fun _ _ _ h => h) (Or.inl ⟨by rfl, ?yz98⟩) hHeld ?_
          case yz98 => (intro wx hSw; have hSx := Ex1.mk hSw; go_simp; (try with_reducible rfl))
          try simp only [Act.put, List.setIfInBounds_toArray, List.set_cons_zero, List.set_cons_succ]
          refine wpAnyH_take (i := 14) (v := ?z99) (by simp; rfl) (by kernel_rfl) (by kernel_rfl) (by kernel_rfl) (by exact fun _ _ _ h => h) (Or.inl ⟨by rfl, ?yz99⟩) hHeld ?_
          case yz99 => (intro wx hSw; have hSx := Ex1.mk hSw; go_simp; (try with_reducible rfl))
          try simp only [Act.put, List.setIfInBounds_toArray, List.set_cons_zero, List.set_cons_succ]
          refine wpAnyH_ready (rs := [13]) (by kernel_rfl) (by simp) ?_
          refine AllReadyH.cons (by simp; rfl) (fun K hK => ?_) AllReadyH.nil
          go_simp
          (go_at_call 26; (with_reducible refine Calls.cE (ratFormatC (by omega) (by omega) (by omega)) ?_); intros)
          refine hK.out _ _ inferInstance ?_
          clear hHeld hK K
          intro hHeld
          try simp only [Act.put, List.setIfInBounds_toArray, List.set_cons_zero, List.set_cons_succ]
          refine wpAnyH_ready (rs := [15]) (by kernel_rfl) (by simp) ?_
          refine AllReadyH.cons (by simp; rfl) (fun K hK => ?_) AllReadyH.nil
          go_simp
          (go_at_call 27; (with_reducible refine Calls.cQ (refQC (by omega)) ?_); intros)
          refine hK.out _ _ inferInstance ?_
          clear hHeld hK K
          intro hHeld
          try simp only [Act.put, List.setIfInBounds_toArray, List.set_cons_zero, List.set_cons_succ]
          refine wpAnyH_ready (rs := [16]) (by kernel_rfl) (by simp) ?_
          refine AllReadyH.cons (by simp; rfl) (fun K hK => ?_) AllReadyH.nil
          go_simp
          (go_at_call 28; (with_reducible refine Calls.cE (numFormatQ (by omega)) ?_); intros)
          refine hK.out _ _ inferInstance ?_
          clear hHeld hK K
          intro hHeld
          try simp only [Act.put, List.setIfInBounds_toArray, List.set_cons_zero, List.set_cons_succ]
          refine wpAnyH_take (i := 17) (v := ?z100) (by simp; rfl) (by kernel_rfl) (by kernel_rfl) (by kernel_rfl) (by exact fun _ _ _ h => h) (Or.inl ⟨by rfl, ?yz100⟩) hHeld ?_
          case yz100 => (intro wx hSw; have hSx := Ex1.mk hSw; go_simp; (try with_reducible rfl))
          try simp only [Act.put, List.setIfInBounds_toArray, List.set_cons_zero, List.set_cons_succ]
          refine wpAnyH_take (i := 18) (v := ?z101) (by simp; rfl) (by kernel_rfl) (by kernel_rfl) (by kernel_rfl) (by exact fun _ _ _ h => h) (Or.inl ⟨by rfl, ?yz101⟩) hHeld ?_
          case yz101 => (intro wx hSw; have hSx := Ex1.mk hSw; go_simp; (try with_reducible rfl))
          try simp only [Act.put, List.setIfInBounds_toArray, List.set_cons_zero, List.set_cons_succ]
          refine wpAnyH_take (i := 19) (v := ?z102) (by simp; rfl) (by kernel_rfl) (by kernel_rfl) (by kernel_rfl) (by exact fun _ _ _ h => h) (Or.inl ⟨by rfl, ?yz102⟩) hHeld ?_
          case yz102 => (intro wx hSw; have hSx := Ex1.mk hSw; go_simp; (try with_reducible rfl))
          try simp only [Act.put, List.setIfInBounds_toArray, List.set_cons_zero, List.set_cons_succ]
          refine wpAnyH_done (by kernel_rfl) ?_ _
          clear hHeld
          go_wp2
          go_ret
          exact E.fin rfl
  · go_enter Tryz.func4, Tryz.ntmps4
    go_wp2_with fail
    with_reducible refine Calls.cE (known03C inferInstance inferInstance inferInstance hne) ?_
    intro W3 _
    go_wp2_with fail
    go_ret
    exact E.fin rfl
end Go.Proofs.YtnkfbkdcplbgoaaGreatDoor
