/-
  Texts of this claim, joined: LawIF.
-/
import Derived.Test.YtfdgglddldlpjaaGH
/- The walk of the law IntegerForms: it returns true and changes nothing that was there. printed by a small program (mkif.py). -/
namespace Go.Proofs.Ytfdgglddldlpjaa
open Go.RowKit
set_option maxRecDepth 100000
set_option maxHeartbeats 40000000
set_option synthInstance.maxSize 100000
set_option synthInstance.maxHeartbeats 1000000

set_option linter.unusedSimpArgs false
theorem wf64 {a : Int} (h : (Lit.int .i64 a).wf = true) : -9223372036854775808 ≤ a ∧ a < 9223372036854775808 := by
  have h2 : -9223372036854775808 ≤ a ∧ a ≤ 9223372036854775807 := by simpa [Lit.wf, IntKind.min, IntKind.max, IntKind.signed, IntKind.bits] using h
  omega
theorem integerForms_walk (g0 : Bool) (a0 : Option Addr) (l0 c0 : Nat) (z0 : List Int) (g1 : Bool) (a1 : Option Addr) (l1 c1 : Nat) (z1 : List Int) (a2 : Int) (w : World) (w0 : IsRow .u32 w a0 l0 c0 z0) (w1 : IsRow .u32 w a1 l1 c1 z1) (w2 : (Lit.int .i64 a2).wf = true) :
    Calls Try.prog 3 #[.agg #[.bool g0, .slice a0 l0 c0], .agg #[.bool g1, .slice a1 l1 c1], .int .i64 a2] w fun e w' => e = .returned (.bool true) ∧ Below w.heap.size w w' := by
  obtain ⟨D0, e0, i0⟩ := rl_row w0
  obtain ⟨D1, e1, i1⟩ := rl_row w1
  have m2 := wf64 w2
  clear w0 w1 w2
  obtain ⟨v, hv⟩ : ∃ v, decide (l0 ≤ 20 ∧ l1 ≤ 20) = v := ⟨_, rfl⟩
  have HV := Lib.hid hv
  cases v with
  | false =>
    clear hv e0 e1
    go_enter Try.func3, Try.ntmps3
    go_wp2_with (first | (go_at_call 4; (with_reducible refine Calls.cE (small2C HV) ?_); intros) | (go_at_call 5; (with_reducible refine Calls.cE known02C ?_); intros))
    go_ret
    exact E.fin rfl
  | true =>
    obtain ⟨s0, s1⟩ := of_decide_eq_true hv
    clear hv
    obtain ⟨nn, hnn⟩ : ∃ v, nrmI g0 D0 = v := ⟨_, rfl⟩
    have HN := Lib.hid hnn
    obtain ⟨x, j0⟩ : ∃ x, CI w (.agg #[.bool g0, .slice a0 l0 c0]) x 20 := ⟨_, CI.cast (CI.sg (n := val D0) (k := D0.length)) rfl (by omega)⟩
    obtain ⟨y, j1⟩ : ∃ y, CI w (.agg #[.bool g1, .slice a1 l1 c1]) y 20 := ⟨_, CI.cast (CI.sg (n := val D1) (k := D1.length)) rfl (by omega)⟩
    clear e0 e1 s0 s1 hnn i1
    obtain ⟨c, hc⟩ : ∃ c, icmp x y = c := ⟨_, rfl⟩
    obtain ⟨s, hs⟩ : ∃ s, isgn x = s := ⟨_, rfl⟩
    have HC := Lib.hid hc
    have HS := Lib.hid hs
    have HM := Lib.hid m2
    clear hc hs
    by_cases hi : -9223372036854775808 ≤ x ∧ x < 9223372036854775808
    · have HI := Lib.hid hi
      obtain ⟨p, hp1, hp2⟩ : ∃ p, icmp x (-9223372036854775808) = p ∧ 0 ≤ p := ⟨_, rfl, by unfold icmp; rw [if_neg (by omega)]; split <;> omega⟩
      obtain ⟨q, hq1, hq2⟩ : ∃ q, icmp x 9223372036854775807 = q ∧ q ≤ 0 := ⟨_, rfl, by unfold icmp; split <;> first | omega | (rw [if_neg (by omega)]; omega)⟩
      have HP := Lib.hid hp1
      have HQ := Lib.hid hq1
      clear hp1 hq1
      go_enter Try.func3, Try.ntmps3
      go_wp2_with (go_at_call 4; (with_reducible refine Calls.cE (small2C HV) ?_); intros)
      refine rgnW [] [] fun w0 ew hHeld => ?_
      refine tk 0 hHeld ?_
      refine tk 2 hHeld ?_
      refine wpAnyT_inv [(1, 23), (3, 25), (4, 7), (5, 8)] (fun i => match i with | 1 => [] | 3 => [1] | 4 => [] | 5 => [] | _ => []) [phiZ x 20, phiZ y 20, phiB w0 30 [.bool false, .slice none 0 0], phiB w0 30 [.bool false, .slice none 0 0]] [4, 5] 2 (by rfl) (by decide +kernel) (by decide) (by decide) (by kernel_rfl) ?_ (fun _ _ => Ex.below) hHeld ?_ ?_
      · intro i hi v W h
        simp only [List.mem_cons, List.not_mem_nil, or_false] at hi
        rcases hi with rfl | rfl
        all_goals exact phiB.old h
      · intro i hi f W hSw hbw hp
        have kw := Kp1.mk hbw
        have kv := kpOf ew (W := W)
        have kz : Kz w0 W := ⟨kv.out.size⟩
        have hSx := Ex1.mk hSw
        clear hHeld
        simp only [List.map_cons, List.map_nil, List.mem_cons, List.not_mem_nil, or_false] at hi
        rcases hi with rfl | rfl | rfl | rfl
        · refine ⟨_, by simp; rfl, fun K' hK => ?_⟩
          clear hp
          simp only [putAll, Act.put, List.setIfInBounds_toArray, List.set_cons_zero, List.set_cons_succ] at hK ⊢
          generalize f 1 = v1 at *
          generalize f 3 = v3 at *
          generalize f 4 = v4 at *
          generalize f 5 = v5 at *
          go_simp
          (with_reducible refine Calls.cZ (refIC (by omega)) ?_); intros
          refine hK.out _ _ _ rfl (inferInstance : Kp W _).out ?_ ?_
          · exact phiZ.fin rfl (by omega)
          · exact fun h => absurd h (by decide)
        · have h1 : phiZ x 20 (f 1) W := hp 1 (by decide)
          refine ⟨_, by simp; rfl, fun K' hK => ?_⟩
          clear hp
          simp only [putAll, Act.put, List.setIfInBounds_toArray, List.set_cons_zero, List.set_cons_succ] at hK ⊢
          generalize f 1 = v1 at *
          generalize f 3 = v3 at *
          generalize f 4 = v4 at *
          generalize f 5 = v5 at *
          obtain ⟨g1, a1, l1, c1, rfl, ix1⟩ := h1
          go_simp
          (with_reducible refine Calls.cZ (refIC (by omega)) ?_); intros
          refine hK.out _ _ _ rfl (inferInstance : Kp W _).out ?_ ?_
          · exact phiZ.fin rfl (by omega)
          · exact fun h => absurd h (by decide)
        · refine ⟨_, by simp; rfl, fun K' hK => ?_⟩
          clear hp
          simp only [putAll, Act.put, List.setIfInBounds_toArray, List.set_cons_zero, List.set_cons_succ] at hK ⊢
          generalize f 1 = v1 at *
          generalize f 3 = v3 at *
          generalize f 4 = v4 at *
          generalize f 5 = v5 at *
          go_simp
          refine hK.out _ _ _ rfl (inferInstance : Kp W _).out ?_ ?_
          · exact phiB.fin
          · exact fun _ => ⟨_, rfl, Nat.le_refl _⟩
        · refine ⟨_, by simp; rfl, fun K' hK => ?_⟩
          clear hp
          simp only [putAll, Act.put, List.setIfInBounds_toArray, List.set_cons_zero, List.set_cons_succ] at hK ⊢
          generalize f 1 = v1 at *
          generalize f 3 = v3 at *
          generalize f 4 = v4 at *
          generalize f 5 = v5 at *
          go_simp
          refine hK.out _ _ _ rfl (inferInstance : Kp W _).out ?_ ?_
          · exact phiB.fin
          · exact fun _ => ⟨_, rfl, Nat.le_refl _⟩
      intro f W hSw hbw hf hne
      have kw := Kp1.mk hbw
      have hSx := Ex1.mk hSw
      clear hHeld
      have kv := kpOf ew (W := W)
      have kz : Kz w0 W := ⟨kv.out.size⟩
      have h1 : phiZ x 20 (f 1) W := hf 1 (by decide)
      have h3 : phiZ y 20 (f 3) W := hf 3 (by decide)
      have h4 : phiB w0 30 [.bool false, .slice none 0 0] (f 4) W := hf 4 (by decide)
      have h5 : phiB w0 30 [.bool false, .slice none 0 0] (f 5) W := hf 5 (by decide)
      have n4_5 := hne 4 5 (by decide) (by decide) (by decide) (by decide) (by decide)
      clear hf hne
      simp only [putAll, lset, List.map_cons, List.map_nil, Act.put, List.setIfInBounds_toArray, List.set_cons_zero, List.set_cons_succ]
      generalize f 1 = v1 at *
      generalize f 3 = v3 at *
      generalize f 4 = v4 at *
      generalize f 5 = v5 at *
      obtain ⟨g1, a1, l1, c1, rfl, ix1⟩ := h1
      obtain ⟨g3, a3, l3, c3, rfl, ix3⟩ := h3
      obtain ⟨b4, rfl, i4, j4, k4⟩ := h4
      obtain ⟨b5, rfl, i5, j5, k5⟩ := h5
      have nw4 := nwOf ew j4
      have gg4 := ggOf ew k4
      have gl4 : Ge w b4 := ⟨by have h2 := j4.out; rw [ew.out] at h2; exact Nat.le_trans (inferInstance : Kp w _).out.size h2⟩
      have nw5 := nwOf ew j5
      have gg5 := ggOf ew k5
      have gl5 : Ge w b5 := ⟨by have h2 := j5.out; rw [ew.out] at h2; exact Nat.le_trans (inferInstance : Kp w _).out.size h2⟩
      have n4_5 := ptr_ne n4_5
      have n5_4 : NeN b5 b4 := ⟨fun e => n4_5.out e.symm⟩
      have hHeld := hSw
      refine st 6 fun K hK => ?_
      go_simp
      refine hd hK ?_
      clear hHeld hK K
      intro hHeld
      refine st 7 fun K hK => ?_
      go_simp
      refine hd hK ?_
      clear hHeld hK K
      intro hHeld
      refine dn ?_
      clear hHeld
      go_wp2_with (first | (go_at_call 7; (with_reducible refine Calls.cE (int64In HI) ?_); intros) | (go_at_call 7; (with_reducible refine Calls.cE (int64In HM) ?_); intros) | (go_at_call 8; (with_reducible refine Calls.cZ (fromIntC HM.out) ?_); intros))
      refine rgn [] [] fun hHeld => ?_
      refine tk 0 hHeld ?_
      refine st 1 fun K hK => ?_
      go_simp
      (with_reducible refine Calls.cZ (numIntC (by omega)) ?_); intros
      refine hd hK ?_
      clear hHeld hK K
      intro hHeld
      refine st 2 fun K hK => ?_
      go_simp
      (with_reducible refine Calls.cE (numCompareV (by omega) HP) ?_); intros
      refine hd hK ?_
      clear hHeld hK K
      intro hHeld
      refine tk 3 hHeld ?_
      refine tk 4 hHeld ?_
      refine tk 5 hHeld ?_
      refine st 6 fun K hK => ?_
      go_simp
      (with_reducible refine Calls.cZ (numIntC (by omega)) ?_); intros
      refine hd hK ?_
      clear hHeld hK K
      intro hHeld
      refine st 7 fun K hK => ?_
      go_simp
      (with_reducible refine Calls.cE (numCompareV (by omega) HQ) ?_); intros
      refine hd hK ?_
      clear hHeld hK K
      intro hHeld
      refine tk 8 hHeld ?_
      refine tk 9 hHeld ?_
      refine tk 10 hHeld ?_
      refine dn ?_
      clear hHeld
      go_wp2_with fail
      refine rgn [] [] fun hHeld => ?_
      refine tk 0 hHeld ?_
      refine tk 1 hHeld ?_
      refine tk 2 hHeld ?_
      refine tk 3 hHeld ?_
      refine tk 4 hHeld ?_
      refine tk 5 hHeld ?_
      refine tk 6 hHeld ?_
      refine tk 8 hHeld ?_
      refine st 7 fun K hK => ?_
      go_simp
      (with_reducible refine Calls.cZ (fromIntC (by first | exact HI.out | exact HM.out)) ?_); intros
      refine hd hK ?_
      clear hHeld hK K
      intro hHeld
      refine st 9 fun K hK => ?_
      go_simp
      (with_reducible refine Calls.cE (same02C (by omega) rfl) ?_); intros
      refine hd hK ?_
      clear hHeld hK K
      intro hHeld
      refine tk 10 hHeld ?_
      refine tk 11 hHeld ?_
      refine tk 12 hHeld ?_
      refine tk 13 hHeld ?_
      refine tk 14 hHeld ?_
      refine tk 15 hHeld ?_
      refine tk 16 hHeld ?_
      refine tkU 17 hHeld ?_
      refine tkU 18 hHeld ?_
      refine tk 19 hHeld ?_
      refine tk 20 hHeld ?_
      refine tk 21 hHeld ?_
      refine tk 22 hHeld ?_
      refine tk 23 hHeld ?_
      refine tk 24 hHeld ?_
      refine tk 25 hHeld ?_
      refine tk 26 hHeld ?_
      refine tk 27 hHeld ?_
      refine tk 28 hHeld ?_
      refine tk 29 hHeld ?_
      refine tk 30 hHeld ?_
      refine tk 31 hHeld ?_
      refine tk 33 hHeld ?_
      refine st 32 fun K hK => ?_
      go_simp
      (with_reducible refine Calls.cZ (fromIntC (by first | exact HI.out | exact HM.out)) ?_); intros
      refine hd hK ?_
      clear hHeld hK K
      intro hHeld
      refine st 34 fun K hK => ?_
      go_simp
      (with_reducible refine Calls.cZ (numIntC HM.out) ?_); intros
      refine hd hK ?_
      clear hHeld hK K
      intro hHeld
      refine st 35 fun K hK => ?_
      go_simp
      (with_reducible refine Calls.cE (same02C (by omega) rfl) ?_); intros
      refine hd hK ?_
      clear hHeld hK K
      intro hHeld
      refine tk 36 hHeld ?_
      refine tk 37 hHeld ?_
      refine dn ?_
      clear hHeld
      go_wp2_with fail
      refine rgn [] [] fun hHeld => ?_
      refine st 0 fun K hK => ?_
      go_simp
      (with_reducible refine Calls.cE (known02C) ?_); intros
      refine hd hK ?_
      clear hHeld hK K
      intro hHeld
      refine tk 1 hHeld ?_
      refine tk 2 hHeld ?_
      refine tk 4 hHeld ?_
      refine st 3 fun K hK => ?_
      go_simp
      (with_reducible refine Calls.cZ (intNormC (by omega)) ?_); intros
      refine hd hK ?_
      clear hHeld hK K
      intro hHeld
      refine st 5 fun K hK => ?_
      go_simp
      (with_reducible refine Calls.cE (same02C (by omega) rfl) ?_); intros
      refine hd hK ?_
      clear hHeld hK K
      intro hHeld
      refine tk 6 hHeld ?_
      refine tk 7 hHeld ?_
      refine tk 8 hHeld ?_
      refine tk 10 hHeld ?_
      refine st 9 fun K hK => ?_
      go_simp
      (with_reducible refine Calls.cE (intNormalL HN) ?_); intros
      refine hd hK ?_
      clear hHeld hK K
      intro hHeld
      refine st 11 fun K hK => ?_
      go_simp
      (with_reducible refine Calls.cE (refNormalIL HN) ?_); intros
      refine hd hK ?_
      clear hHeld hK K
      intro hHeld
      refine tk 12 hHeld ?_
      refine tk 13 hHeld ?_
      refine tk 14 hHeld ?_
      refine tk 15 hHeld ?_
      refine tk 17 hHeld ?_
      refine st 16 fun K hK => ?_
      go_simp
      (with_reducible refine Calls.cE (intSignV (by omega) HS) ?_); intros
      refine hd hK ?_
      clear hHeld hK K
      intro hHeld
      refine st 18 fun K hK => ?_
      go_simp
      (with_reducible refine Calls.cE (numSignV HS) ?_); intros
      refine hd hK ?_
      clear hHeld hK K
      intro hHeld
      refine tk 19 hHeld ?_
      refine tk 20 hHeld ?_
      refine tk 21 hHeld ?_
      refine tk 22 hHeld ?_
      refine tk 23 hHeld ?_
      refine tk 25 hHeld ?_
      refine tk 26 hHeld ?_
      refine st 24 fun K hK => ?_
      go_simp
      (with_reducible refine Calls.cE (intCmpV (by omega) HC) ?_); intros
      refine hd hK ?_
      clear hHeld hK K
      intro hHeld
      refine st 27 fun K hK => ?_
      go_simp
      (with_reducible refine Calls.cE (numCompareV (by omega) HC) ?_); intros
      refine hd hK ?_
      clear hHeld hK K
      intro hHeld
      refine tk 28 hHeld ?_
      refine tk 29 hHeld ?_
      refine tk 30 hHeld ?_
      refine dn ?_
      clear hHeld
      go_wp2
      go_ret
      exact E.fin rfl
    · have HI := Lib.hid hi
      by_cases hl : x < -9223372036854775808
      · have HP : Hid (icmp x (-9223372036854775808) = -1) := icmp_lt hl
        clear hi hl
        go_enter Try.func3, Try.ntmps3
        go_wp2_with (go_at_call 4; (with_reducible refine Calls.cE (small2C HV) ?_); intros)
        refine rgnW [] [] fun w0 ew hHeld => ?_
        refine tk 0 hHeld ?_
        refine tk 2 hHeld ?_
        refine wpAnyT_inv [(1, 23), (3, 25), (4, 7), (5, 8)] (fun i => match i with | 1 => [] | 3 => [1] | 4 => [] | 5 => [] | _ => []) [phiZ x 20, phiZ y 20, phiB w0 30 [.bool false, .slice none 0 0], phiB w0 30 [.bool false, .slice none 0 0]] [4, 5] 2 (by rfl) (by decide +kernel) (by decide) (by decide) (by kernel_rfl) ?_ (fun _ _ => Ex.below) hHeld ?_ ?_
        · intro i hi v W h
          simp only [List.mem_cons, List.not_mem_nil, or_false] at hi
          rcases hi with rfl | rfl
          all_goals exact phiB.old h
        · intro i hi f W hSw hbw hp
          have kw := Kp1.mk hbw
          have kv := kpOf ew (W := W)
          have kz : Kz w0 W := ⟨kv.out.size⟩
          have hSx := Ex1.mk hSw
          clear hHeld
          simp only [List.map_cons, List.map_nil, List.mem_cons, List.not_mem_nil, or_false] at hi
          rcases hi with rfl | rfl | rfl | rfl
          · refine ⟨_, by simp; rfl, fun K' hK => ?_⟩
            clear hp
            simp only [putAll, Act.put, List.setIfInBounds_toArray, List.set_cons_zero, List.set_cons_succ] at hK ⊢
            generalize f 1 = v1 at *
            generalize f 3 = v3 at *
            generalize f 4 = v4 at *
            generalize f 5 = v5 at *
            go_simp
            (with_reducible refine Calls.cZ (refIC (by omega)) ?_); intros
            refine hK.out _ _ _ rfl (inferInstance : Kp W _).out ?_ ?_
            · exact phiZ.fin rfl (by omega)
            · exact fun h => absurd h (by decide)
          · have h1 : phiZ x 20 (f 1) W := hp 1 (by decide)
            refine ⟨_, by simp; rfl, fun K' hK => ?_⟩
            clear hp
            simp only [putAll, Act.put, List.setIfInBounds_toArray, List.set_cons_zero, List.set_cons_succ] at hK ⊢
            generalize f 1 = v1 at *
            generalize f 3 = v3 at *
            generalize f 4 = v4 at *
            generalize f 5 = v5 at *
            obtain ⟨g1, a1, l1, c1, rfl, ix1⟩ := h1
            go_simp
            (with_reducible refine Calls.cZ (refIC (by omega)) ?_); intros
            refine hK.out _ _ _ rfl (inferInstance : Kp W _).out ?_ ?_
            · exact phiZ.fin rfl (by omega)
            · exact fun h => absurd h (by decide)
          · refine ⟨_, by simp; rfl, fun K' hK => ?_⟩
            clear hp
            simp only [putAll, Act.put, List.setIfInBounds_toArray, List.set_cons_zero, List.set_cons_succ] at hK ⊢
            generalize f 1 = v1 at *
            generalize f 3 = v3 at *
            generalize f 4 = v4 at *
            generalize f 5 = v5 at *
            go_simp
            refine hK.out _ _ _ rfl (inferInstance : Kp W _).out ?_ ?_
            · exact phiB.fin
            · exact fun _ => ⟨_, rfl, Nat.le_refl _⟩
          · refine ⟨_, by simp; rfl, fun K' hK => ?_⟩
            clear hp
            simp only [putAll, Act.put, List.setIfInBounds_toArray, List.set_cons_zero, List.set_cons_succ] at hK ⊢
            generalize f 1 = v1 at *
            generalize f 3 = v3 at *
            generalize f 4 = v4 at *
            generalize f 5 = v5 at *
            go_simp
            refine hK.out _ _ _ rfl (inferInstance : Kp W _).out ?_ ?_
            · exact phiB.fin
            · exact fun _ => ⟨_, rfl, Nat.le_refl _⟩
        intro f W hSw hbw hf hne
        have kw := Kp1.mk hbw
        have hSx := Ex1.mk hSw
        clear hHeld
        have kv := kpOf ew (W := W)
        have kz : Kz w0 W := ⟨kv.out.size⟩
        have h1 : phiZ x 20 (f 1) W := hf 1 (by decide)
        have h3 : phiZ y 20 (f 3) W := hf 3 (by decide)
        have h4 : phiB w0 30 [.bool false, .slice none 0 0] (f 4) W := hf 4 (by decide)
        have h5 : phiB w0 30 [.bool false, .slice none 0 0] (f 5) W := hf 5 (by decide)
        have n4_5 := hne 4 5 (by decide) (by decide) (by decide) (by decide) (by decide)
        clear hf hne
        simp only [putAll, lset, List.map_cons, List.map_nil, Act.put, List.setIfInBounds_toArray, List.set_cons_zero, List.set_cons_succ]
        generalize f 1 = v1 at *
        generalize f 3 = v3 at *
        generalize f 4 = v4 at *
        generalize f 5 = v5 at *
        obtain ⟨g1, a1, l1, c1, rfl, ix1⟩ := h1
        obtain ⟨g3, a3, l3, c3, rfl, ix3⟩ := h3
        obtain ⟨b4, rfl, i4, j4, k4⟩ := h4
        obtain ⟨b5, rfl, i5, j5, k5⟩ := h5
        have nw4 := nwOf ew j4
        have gg4 := ggOf ew k4
        have gl4 : Ge w b4 := ⟨by have h2 := j4.out; rw [ew.out] at h2; exact Nat.le_trans (inferInstance : Kp w _).out.size h2⟩
        have nw5 := nwOf ew j5
        have gg5 := ggOf ew k5
        have gl5 : Ge w b5 := ⟨by have h2 := j5.out; rw [ew.out] at h2; exact Nat.le_trans (inferInstance : Kp w _).out.size h2⟩
        have n4_5 := ptr_ne n4_5
        have n5_4 : NeN b5 b4 := ⟨fun e => n4_5.out e.symm⟩
        have hHeld := hSw
        refine st 6 fun K hK => ?_
        go_simp
        refine hd hK ?_
        clear hHeld hK K
        intro hHeld
        refine st 7 fun K hK => ?_
        go_simp
        refine hd hK ?_
        clear hHeld hK K
        intro hHeld
        refine dn ?_
        clear hHeld
        go_wp2_with (first | (go_at_call 7; (with_reducible refine Calls.cE (int64Out HI) ?_); intros) | (go_at_call 7; (with_reducible refine Calls.cE (int64In HM) ?_); intros) | (go_at_call 8; (with_reducible refine Calls.cZ (fromIntC HM.out) ?_); intros))
        refine rgn [] [] fun hHeld => ?_
        refine tk 0 hHeld ?_
        refine st 1 fun K hK => ?_
        go_simp
        (with_reducible refine Calls.cZ (numIntC (by omega)) ?_); intros
        refine hd hK ?_
        clear hHeld hK K
        intro hHeld
        refine st 2 fun K hK => ?_
        go_simp
        (with_reducible refine Calls.cE (numCompareV (by omega) HP) ?_); intros
        refine hd hK ?_
        clear hHeld hK K
        intro hHeld
        refine tk 3 hHeld ?_
        refine tk 4 hHeld ?_
        refine tkU 5 hHeld ?_
        refine tkU 6 hHeld ?_
        refine tkU 7 hHeld ?_
        refine tkU 8 hHeld ?_
        refine tk 9 hHeld ?_
        refine tk 10 hHeld ?_
        refine dn ?_
        clear hHeld
        go_wp2_with fail
        refine rgn [] [] fun hHeld => ?_
        refine tk 0 hHeld ?_
        refine tk 1 hHeld ?_
        refine tk 2 hHeld ?_
        refine tk 3 hHeld ?_
        refine tk 4 hHeld ?_
        refine tk 5 hHeld ?_
        refine tkU 6 hHeld ?_
        refine tkU 7 hHeld ?_
        refine tkU 8 hHeld ?_
        refine tkU 9 hHeld ?_
        refine tkU 10 hHeld ?_
        refine tk 11 hHeld ?_
        refine tk 12 hHeld ?_
        refine tk 13 hHeld ?_
        refine tk 14 hHeld ?_
        refine tk 15 hHeld ?_
        refine tk 16 hHeld ?_
        refine tk 17 hHeld ?_
        refine tk 18 hHeld ?_
        refine tk 19 hHeld ?_
        refine tk 20 hHeld ?_
        refine tk 21 hHeld ?_
        refine tk 22 hHeld ?_
        refine tk 23 hHeld ?_
        refine tk 24 hHeld ?_
        refine tk 25 hHeld ?_
        refine tk 26 hHeld ?_
        refine tk 27 hHeld ?_
        refine tk 28 hHeld ?_
        refine tk 29 hHeld ?_
        refine tk 30 hHeld ?_
        refine tk 31 hHeld ?_
        refine tk 33 hHeld ?_
        refine st 32 fun K hK => ?_
        go_simp
        (with_reducible refine Calls.cZ (fromIntC (by first | exact HI.out | exact HM.out)) ?_); intros
        refine hd hK ?_
        clear hHeld hK K
        intro hHeld
        refine st 34 fun K hK => ?_
        go_simp
        (with_reducible refine Calls.cZ (numIntC HM.out) ?_); intros
        refine hd hK ?_
        clear hHeld hK K
        intro hHeld
        refine st 35 fun K hK => ?_
        go_simp
        (with_reducible refine Calls.cE (same02C (by omega) rfl) ?_); intros
        refine hd hK ?_
        clear hHeld hK K
        intro hHeld
        refine tk 36 hHeld ?_
        refine tk 37 hHeld ?_
        refine dn ?_
        clear hHeld
        go_wp2_with fail
        refine rgn [] [] fun hHeld => ?_
        refine st 0 fun K hK => ?_
        go_simp
        (with_reducible refine Calls.cE (known02C) ?_); intros
        refine hd hK ?_
        clear hHeld hK K
        intro hHeld
        refine tk 1 hHeld ?_
        refine tk 2 hHeld ?_
        refine tk 4 hHeld ?_
        refine st 3 fun K hK => ?_
        go_simp
        (with_reducible refine Calls.cZ (intNormC (by omega)) ?_); intros
        refine hd hK ?_
        clear hHeld hK K
        intro hHeld
        refine st 5 fun K hK => ?_
        go_simp
        (with_reducible refine Calls.cE (same02C (by omega) rfl) ?_); intros
        refine hd hK ?_
        clear hHeld hK K
        intro hHeld
        refine tk 6 hHeld ?_
        refine tk 7 hHeld ?_
        refine tk 8 hHeld ?_
        refine tk 10 hHeld ?_
        refine st 9 fun K hK => ?_
        go_simp
        (with_reducible refine Calls.cE (intNormalL HN) ?_); intros
        refine hd hK ?_
        clear hHeld hK K
        intro hHeld
        refine st 11 fun K hK => ?_
        go_simp
        (with_reducible refine Calls.cE (refNormalIL HN) ?_); intros
        refine hd hK ?_
        clear hHeld hK K
        intro hHeld
        refine tk 12 hHeld ?_
        refine tk 13 hHeld ?_
        refine tk 14 hHeld ?_
        refine tk 15 hHeld ?_
        refine tk 17 hHeld ?_
        refine st 16 fun K hK => ?_
        go_simp
        (with_reducible refine Calls.cE (intSignV (by omega) HS) ?_); intros
        refine hd hK ?_
        clear hHeld hK K
        intro hHeld
        refine st 18 fun K hK => ?_
        go_simp
        (with_reducible refine Calls.cE (numSignV HS) ?_); intros
        refine hd hK ?_
        clear hHeld hK K
        intro hHeld
        refine tk 19 hHeld ?_
        refine tk 20 hHeld ?_
        refine tk 21 hHeld ?_
        refine tk 22 hHeld ?_
        refine tk 23 hHeld ?_
        refine tk 25 hHeld ?_
        refine tk 26 hHeld ?_
        refine st 24 fun K hK => ?_
        go_simp
        (with_reducible refine Calls.cE (intCmpV (by omega) HC) ?_); intros
        refine hd hK ?_
        clear hHeld hK K
        intro hHeld
        refine st 27 fun K hK => ?_
        go_simp
        (with_reducible refine Calls.cE (numCompareV (by omega) HC) ?_); intros
        refine hd hK ?_
        clear hHeld hK K
        intro hHeld
        refine tk 28 hHeld ?_
        refine tk 29 hHeld ?_
        refine tk 30 hHeld ?_
        refine dn ?_
        clear hHeld
        go_wp2
        go_ret
        exact E.fin rfl
      · obtain ⟨p, hp1, hp2⟩ : ∃ p, icmp x (-9223372036854775808) = p ∧ 0 ≤ p := ⟨_, rfl, by unfold icmp; rw [if_neg (by omega)]; split <;> omega⟩
        have HP := Lib.hid hp1
        have HQ : Hid (icmp x 9223372036854775807 = 1) := icmp_gt (by omega)
        clear hi hl hp1
        go_enter Try.func3, Try.ntmps3
        go_wp2_with (go_at_call 4; (with_reducible refine Calls.cE (small2C HV) ?_); intros)
        refine rgnW [] [] fun w0 ew hHeld => ?_
        refine tk 0 hHeld ?_
        refine tk 2 hHeld ?_
        refine wpAnyT_inv [(1, 23), (3, 25), (4, 7), (5, 8)] (fun i => match i with | 1 => [] | 3 => [1] | 4 => [] | 5 => [] | _ => []) [phiZ x 20, phiZ y 20, phiB w0 30 [.bool false, .slice none 0 0], phiB w0 30 [.bool false, .slice none 0 0]] [4, 5] 2 (by rfl) (by decide +kernel) (by decide) (by decide) (by kernel_rfl) ?_ (fun _ _ => Ex.below) hHeld ?_ ?_
        · intro i hi v W h
          simp only [List.mem_cons, List.not_mem_nil, or_false] at hi
          rcases hi with rfl | rfl
          all_goals exact phiB.old h
        · intro i hi f W hSw hbw hp
          have kw := Kp1.mk hbw
          have kv := kpOf ew (W := W)
          have kz : Kz w0 W := ⟨kv.out.size⟩
          have hSx := Ex1.mk hSw
          clear hHeld
          simp only [List.map_cons, List.map_nil, List.mem_cons, List.not_mem_nil, or_false] at hi
          rcases hi with rfl | rfl | rfl | rfl
          · refine ⟨_, by simp; rfl, fun K' hK => ?_⟩
            clear hp
            simp only [putAll, Act.put, List.setIfInBounds_toArray, List.set_cons_zero, List.set_cons_succ] at hK ⊢
            generalize f 1 = v1 at *
            generalize f 3 = v3 at *
            generalize f 4 = v4 at *
            generalize f 5 = v5 at *
            go_simp
            (with_reducible refine Calls.cZ (refIC (by omega)) ?_); intros
            refine hK.out _ _ _ rfl (inferInstance : Kp W _).out ?_ ?_
            · exact phiZ.fin rfl (by omega)
            · exact fun h => absurd h (by decide)
          · have h1 : phiZ x 20 (f 1) W := hp 1 (by decide)
            refine ⟨_, by simp; rfl, fun K' hK => ?_⟩
            clear hp
            simp only [putAll, Act.put, List.setIfInBounds_toArray, List.set_cons_zero, List.set_cons_succ] at hK ⊢
            generalize f 1 = v1 at *
            generalize f 3 = v3 at *
            generalize f 4 = v4 at *
            generalize f 5 = v5 at *
            obtain ⟨g1, a1, l1, c1, rfl, ix1⟩ := h1
            go_simp
            (with_reducible refine Calls.cZ (refIC (by omega)) ?_); intros
            refine hK.out _ _ _ rfl (inferInstance : Kp W _).out ?_ ?_
            · exact phiZ.fin rfl (by omega)
            · exact fun h => absurd h (by decide)
          · refine ⟨_, by simp; rfl, fun K' hK => ?_⟩
            clear hp
            simp only [putAll, Act.put, List.setIfInBounds_toArray, List.set_cons_zero, List.set_cons_succ] at hK ⊢
            generalize f 1 = v1 at *
            generalize f 3 = v3 at *
            generalize f 4 = v4 at *
            generalize f 5 = v5 at *
            go_simp
            refine hK.out _ _ _ rfl (inferInstance : Kp W _).out ?_ ?_
            · exact phiB.fin
            · exact fun _ => ⟨_, rfl, Nat.le_refl _⟩
          · refine ⟨_, by simp; rfl, fun K' hK => ?_⟩
            clear hp
            simp only [putAll, Act.put, List.setIfInBounds_toArray, List.set_cons_zero, List.set_cons_succ] at hK ⊢
            generalize f 1 = v1 at *
            generalize f 3 = v3 at *
            generalize f 4 = v4 at *
            generalize f 5 = v5 at *
            go_simp
            refine hK.out _ _ _ rfl (inferInstance : Kp W _).out ?_ ?_
            · exact phiB.fin
            · exact fun _ => ⟨_, rfl, Nat.le_refl _⟩
        intro f W hSw hbw hf hne
        have kw := Kp1.mk hbw
        have hSx := Ex1.mk hSw
        clear hHeld
        have kv := kpOf ew (W := W)
        have kz : Kz w0 W := ⟨kv.out.size⟩
        have h1 : phiZ x 20 (f 1) W := hf 1 (by decide)
        have h3 : phiZ y 20 (f 3) W := hf 3 (by decide)
        have h4 : phiB w0 30 [.bool false, .slice none 0 0] (f 4) W := hf 4 (by decide)
        have h5 : phiB w0 30 [.bool false, .slice none 0 0] (f 5) W := hf 5 (by decide)
        have n4_5 := hne 4 5 (by decide) (by decide) (by decide) (by decide) (by decide)
        clear hf hne
        simp only [putAll, lset, List.map_cons, List.map_nil, Act.put, List.setIfInBounds_toArray, List.set_cons_zero, List.set_cons_succ]
        generalize f 1 = v1 at *
        generalize f 3 = v3 at *
        generalize f 4 = v4 at *
        generalize f 5 = v5 at *
        obtain ⟨g1, a1, l1, c1, rfl, ix1⟩ := h1
        obtain ⟨g3, a3, l3, c3, rfl, ix3⟩ := h3
        obtain ⟨b4, rfl, i4, j4, k4⟩ := h4
        obtain ⟨b5, rfl, i5, j5, k5⟩ := h5
        have nw4 := nwOf ew j4
        have gg4 := ggOf ew k4
        have gl4 : Ge w b4 := ⟨by have h2 := j4.out; rw [ew.out] at h2; exact Nat.le_trans (inferInstance : Kp w _).out.size h2⟩
        have nw5 := nwOf ew j5
        have gg5 := ggOf ew k5
        have gl5 : Ge w b5 := ⟨by have h2 := j5.out; rw [ew.out] at h2; exact Nat.le_trans (inferInstance : Kp w _).out.size h2⟩
        have n4_5 := ptr_ne n4_5
        have n5_4 : NeN b5 b4 := ⟨fun e => n4_5.out e.symm⟩
        have hHeld := hSw
        refine st 6 fun K hK => ?_
        go_simp
        refine hd hK ?_
        clear hHeld hK K
        intro hHeld
        refine st 7 fun K hK => ?_
        go_simp
        refine hd hK ?_
        clear hHeld hK K
        intro hHeld
        refine dn ?_
        clear hHeld
        go_wp2_with (first | (go_at_call 7; (with_reducible refine Calls.cE (int64Out HI) ?_); intros) | (go_at_call 7; (with_reducible refine Calls.cE (int64In HM) ?_); intros) | (go_at_call 8; (with_reducible refine Calls.cZ (fromIntC HM.out) ?_); intros))
        refine rgn [] [] fun hHeld => ?_
        refine tk 0 hHeld ?_
        refine st 1 fun K hK => ?_
        go_simp
        (with_reducible refine Calls.cZ (numIntC (by omega)) ?_); intros
        refine hd hK ?_
        clear hHeld hK K
        intro hHeld
        refine st 2 fun K hK => ?_
        go_simp
        (with_reducible refine Calls.cE (numCompareV (by omega) HP) ?_); intros
        refine hd hK ?_
        clear hHeld hK K
        intro hHeld
        refine tk 3 hHeld ?_
        refine tk 4 hHeld ?_
        refine tk 5 hHeld ?_
        refine st 6 fun K hK => ?_
        go_simp
        (with_reducible refine Calls.cZ (numIntC (by omega)) ?_); intros
        refine hd hK ?_
        clear hHeld hK K
        intro hHeld
        refine st 7 fun K hK => ?_
        go_simp
        (with_reducible refine Calls.cE (numCompareV (by omega) HQ) ?_); intros
        refine hd hK ?_
        clear hHeld hK K
        intro hHeld
        refine tk 8 hHeld ?_
        refine tk 9 hHeld ?_
        refine tk 10 hHeld ?_
        refine dn ?_
        clear hHeld
        go_wp2_with fail
        refine rgn [] [] fun hHeld => ?_
        refine tk 0 hHeld ?_
        refine tk 1 hHeld ?_
        refine tk 2 hHeld ?_
        refine tk 3 hHeld ?_
        refine tk 4 hHeld ?_
        refine tk 5 hHeld ?_
        refine tkU 6 hHeld ?_
        refine tkU 7 hHeld ?_
        refine tkU 8 hHeld ?_
        refine tkU 9 hHeld ?_
        refine tkU 10 hHeld ?_
        refine tk 11 hHeld ?_
        refine tk 12 hHeld ?_
        refine tk 13 hHeld ?_
        refine tk 14 hHeld ?_
        refine tk 15 hHeld ?_
        refine tk 16 hHeld ?_
        refine tk 17 hHeld ?_
        refine tk 18 hHeld ?_
        refine tk 19 hHeld ?_
        refine tk 20 hHeld ?_
        refine tk 21 hHeld ?_
        refine tk 22 hHeld ?_
        refine tk 23 hHeld ?_
        refine tk 24 hHeld ?_
        refine tk 25 hHeld ?_
        refine tk 26 hHeld ?_
        refine tk 27 hHeld ?_
        refine tk 28 hHeld ?_
        refine tk 29 hHeld ?_
        refine tk 30 hHeld ?_
        refine tk 31 hHeld ?_
        refine tk 33 hHeld ?_
        refine st 32 fun K hK => ?_
        go_simp
        (with_reducible refine Calls.cZ (fromIntC (by first | exact HI.out | exact HM.out)) ?_); intros
        refine hd hK ?_
        clear hHeld hK K
        intro hHeld
        refine st 34 fun K hK => ?_
        go_simp
        (with_reducible refine Calls.cZ (numIntC HM.out) ?_); intros
        refine hd hK ?_
        clear hHeld hK K
        intro hHeld
        refine st 35 fun K hK => ?_
        go_simp
        (with_reducible refine Calls.cE (same02C (by omega) rfl) ?_); intros
        refine hd hK ?_
        clear hHeld hK K
        intro hHeld
        refine tk 36 hHeld ?_
        refine tk 37 hHeld ?_
        refine dn ?_
        clear hHeld
        go_wp2_with fail
        refine rgn [] [] fun hHeld => ?_
        refine st 0 fun K hK => ?_
        go_simp
        (with_reducible refine Calls.cE (known02C) ?_); intros
        refine hd hK ?_
        clear hHeld hK K
        intro hHeld
        refine tk 1 hHeld ?_
        refine tk 2 hHeld ?_
        refine tk 4 hHeld ?_
        refine st 3 fun K hK => ?_
        go_simp
        (with_reducible refine Calls.cZ (intNormC (by omega)) ?_); intros
        refine hd hK ?_
        clear hHeld hK K
        intro hHeld
        refine st 5 fun K hK => ?_
        go_simp
        (with_reducible refine Calls.cE (same02C (by omega) rfl) ?_); intros
        refine hd hK ?_
        clear hHeld hK K
        intro hHeld
        refine tk 6 hHeld ?_
        refine tk 7 hHeld ?_
        refine tk 8 hHeld ?_
        refine tk 10 hHeld ?_
        refine st 9 fun K hK => ?_
        go_simp
        (with_reducible refine Calls.cE (intNormalL HN) ?_); intros
        refine hd hK ?_
        clear hHeld hK K
        intro hHeld
        refine st 11 fun K hK => ?_
        go_simp
        (with_reducible refine Calls.cE (refNormalIL HN) ?_); intros
        refine hd hK ?_
        clear hHeld hK K
        intro hHeld
        refine tk 12 hHeld ?_
        refine tk 13 hHeld ?_
        refine tk 14 hHeld ?_
        refine tk 15 hHeld ?_
        refine tk 17 hHeld ?_
        refine st 16 fun K hK => ?_
        go_simp
        (with_reducible refine Calls.cE (intSignV (by omega) HS) ?_); intros
        refine hd hK ?_
        clear hHeld hK K
        intro hHeld
        refine st 18 fun K hK => ?_
        go_simp
        (with_reducible refine Calls.cE (numSignV HS) ?_); intros
        refine hd hK ?_
        clear hHeld hK K
        intro hHeld
        refine tk 19 hHeld ?_
        refine tk 20 hHeld ?_
        refine tk 21 hHeld ?_
        refine tk 22 hHeld ?_
        refine tk 23 hHeld ?_
        refine tk 25 hHeld ?_
        refine tk 26 hHeld ?_
        refine st 24 fun K hK => ?_
        go_simp
        (with_reducible refine Calls.cE (intCmpV (by omega) HC) ?_); intros
        refine hd hK ?_
        clear hHeld hK K
        intro hHeld
        refine st 27 fun K hK => ?_
        go_simp
        (with_reducible refine Calls.cE (numCompareV (by omega) HC) ?_); intros
        refine hd hK ?_
        clear hHeld hK K
        intro hHeld
        refine tk 28 hHeld ?_
        refine tk 29 hHeld ?_
        refine tk 30 hHeld ?_
        refine dn ?_
        clear hHeld
        go_wp2
        go_ret
        exact E.fin rfl
end Go.Proofs.Ytfdgglddldlpjaa
