/-
  Texts of this claim, joined: LawRF.
-/
import Derived.Test.YtfdgglddldlpjaaGreatDoorGQ
/- The walk of the law RationalForms: it returns true and changes nothing that was there. printed by a small program (mkrf.py). -/
namespace Go.Proofs.YtfdgglddldlpjaaGreatDoor
open Go.RowKit
set_option maxRecDepth 100000
set_option maxHeartbeats 40000000
set_option synthInstance.maxSize 100000
set_option synthInstance.maxHeartbeats 1000000

set_option linter.unusedSimpArgs false
theorem wf64 {a : Int} (h : (Lit.int .i64 a).wf = true) : -9223372036854775808 ≤ a ∧ a < 9223372036854775808 := by
  have h2 : -9223372036854775808 ≤ a ∧ a ≤ 9223372036854775807 := by simpa [Lit.wf, IntKind.min, IntKind.max, IntKind.signed, IntKind.bits] using h
  omega
theorem rationalForms_walk (g0 : Bool) (a0 : Option Addr) (l0 c0 : Nat) (z0 : List Int) (aa0 : Option Addr) (ll0 cc0 : Nat) (zz0 : List Int) (g1 : Bool) (a1 : Option Addr) (l1 c1 : Nat) (z1 : List Int) (aa1 : Option Addr) (ll1 cc1 : Nat) (zz1 : List Int) (a2 : Int) (w : World) (w0a : IsRow .u32 w a0 l0 c0 z0) (w0b : IsRow .u32 w aa0 ll0 cc0 zz0) (w1a : IsRow .u32 w a1 l1 c1 z1) (w1b : IsRow .u32 w aa1 ll1 cc1 zz1) (w2 : (Lit.int .i64 a2).wf = true) (hL : laidMetH Tryz.prog laid3 w) :
    Calls Tryz.prog 3 #[.agg #[.bool g0, .slice a0 l0 c0, .slice aa0 ll0 cc0], .agg #[.bool g1, .slice a1 l1 c1, .slice aa1 ll1 cc1], .int .i64 a2] w fun e w' => e = .returned (.bool true) ∧ Below w.heap.size w w' := by
  obtain ⟨s0, s1, s2, t0, t1, t2, hne⟩ := sents3 hL
  clear hL
  obtain ⟨D0, e0, i0⟩ := rl_row w0a
  obtain ⟨DD0, ee0, ii0⟩ := rl_row w0b
  obtain ⟨D1, e1, i1⟩ := rl_row w1a
  obtain ⟨DD1, ee1, ii1⟩ := rl_row w1b
  have m2 := wf64 w2
  clear w0a w0b w1a w1b w2
  obtain ⟨v, hv⟩ : ∃ v, small4 10 l0 ll0 l1 ll1 = v := ⟨_, rfl⟩
  have HV := Lib.hid hv
  cases v with
  | false =>
    clear hv e0 ee0 e1 ee1
    go_enter Tryz.func3, Tryz.ntmps3
    go_wp2_with (first | (go_at_call 11; (with_reducible refine Calls.cE (smallQ2 HV) ?_); intros) | (go_at_call 12; (with_reducible refine Calls.cE (known03C inferInstance inferInstance inferInstance hne) ?_); intros))
    go_ret
    exact E.fin rfl
  | true =>
    have hs : l0 ≤ 10 ∧ ll0 ≤ 10 ∧ l1 ≤ 10 ∧ ll1 ≤ 10 := by simpa [small4] using hv
    obtain ⟨q1, q2, q3, q4⟩ := hs
    clear hv
    have hN : Hid (D0.length ≤ 40000 ∧ DD0.length ≤ 40000) := ⟨by omega, by omega⟩
    obtain ⟨nn, hnn⟩ : ∃ v, nrmQ g0 D0 DD0 = v := ⟨_, rfl⟩
    have HN := Lib.hid hnn
    obtain ⟨p, j0⟩ : ∃ p, CI w (.agg #[.bool g0, .slice a0 l0 c0]) p 10 := ⟨_, CI.cast (CI.sg (n := val D0) (k := D0.length)) rfl (by omega)⟩
    obtain ⟨q, j1⟩ : ∃ q, CI w (.agg #[.bool g1, .slice a1 l1 c1]) q 10 := ⟨_, CI.cast (CI.sg (n := val D1) (k := D1.length)) rfl (by omega)⟩
    obtain ⟨x, j2⟩ : ∃ x, CW w (.agg #[.bool g0, .slice a0 l0 c0, .slice aa0 ll0 cc0]) x 10 := ⟨_, CW.cast (CW.mk' (z := p) (n := val DD0) (k1 := 10) (k2 := DD0.length)) rfl (by omega)⟩
    obtain ⟨y, j3⟩ : ∃ y, CW w (.agg #[.bool g1, .slice a1 l1 c1, .slice aa1 ll1 cc1]) y 10 := ⟨_, CW.cast (CW.mk' (z := q) (n := val DD1) (k1 := 10) (k2 := DD1.length)) rfl (by omega)⟩
    clear e0 ee0 e1 ee1 q1 q2 q3 q4 hnn i1 ii1
    have HM := Lib.hid m2
    obtain ⟨c, hc⟩ : ∃ c, isgn (x - y).num = c := ⟨_, rfl⟩
    obtain ⟨s, hs⟩ : ∃ s, isgn x.num = s := ⟨_, rfl⟩
    have HC := Lib.hid hc
    have HS := Lib.hid hs
    clear hc hs m2
    by_cases hq : q = 0
    · have HQ : Hid (decide (q ≠ 0) = false) := by show _ = _; simp [hq]
      have HZ : Hid (((p : Int) : Rat) / ((q : Int) : Rat) = 0) := by
        show _ = _
        rw [hq, Rat.div_def]
        show _ * (0 : Rat)⁻¹ = 0
        rw [Rat.inv_zero, Rat.mul_zero]
      have HQ0 := Lib.hid hq
      clear hq
      go_enter Tryz.func3, Tryz.ntmps3
      go_wp2_with (go_at_call 11; (with_reducible refine Calls.cE (smallQ2 HV) ?_); intros)
      refine rgnW [] [] fun w0 ew hHeld => ?_
      refine tk 0 hHeld ?_
      refine tk 2 hHeld ?_
      refine wpAnyT_inv [(1, 19), (3, 21), (4, 7), (5, 8)] (fun i => match i with | 1 => [] | 3 => [1] | 4 => [] | 5 => [] | _ => []) [phiQ x 12, phiQ y 12, phiB w0 34 [.bool false, .slice none 0 0, .slice none 0 0], phiB w0 34 [.bool false, .slice none 0 0, .slice none 0 0]] [4, 5] 2 (by rfl) (by decide +kernel) (by decide) (by decide) (by kernel_rfl) ?_ (fun _ _ => Ex.below) hHeld ?_ ?_
      · intro i hi v W h
        simp only [List.mem_cons, List.not_mem_nil, or_false] at hi
        rcases hi with rfl | rfl
        all_goals exact phiB.old h
      · intro i hi f W hSw hbw hp
        have kw := Kp1.mk hbw
        have kv := kpOf ew (W := W)
        have kz : Kz w0 W := ⟨kv.out.size⟩
        have hSx := Ex1.mk hSw
        clear hHeld
        simp only [List.map_cons, List.map_nil, List.mem_cons, List.not_mem_nil, or_false] at hi
        rcases hi with rfl | rfl | rfl | rfl
        · refine ⟨_, by simp; rfl, fun K' hK => ?_⟩
          clear hp
          simp only [putAll, Act.put, List.setIfInBounds_toArray, List.set_cons_zero, List.set_cons_succ] at hK ⊢
          generalize f 1 = v1 at *
          generalize f 3 = v3 at *
          generalize f 4 = v4 at *
          generalize f 5 = v5 at *
          go_simp
          (with_reducible refine Calls.cQ (refQC (by omega)) ?_); intros
          refine hK.out _ _ _ rfl (inferInstance : Kp W _).out ?_ ?_
          · exact phiQ.fin rfl (by omega)
          · exact fun h => absurd h (by decide)
        · have h1 : phiQ x 12 (f 1) W := hp 1 (by decide)
          refine ⟨_, by simp; rfl, fun K' hK => ?_⟩
          clear hp
          simp only [putAll, Act.put, List.setIfInBounds_toArray, List.set_cons_zero, List.set_cons_succ] at hK ⊢
          generalize f 1 = v1 at *
          generalize f 3 = v3 at *
          generalize f 4 = v4 at *
          generalize f 5 = v5 at *
          obtain ⟨g1, a1, l1, c1, aa1, ll1, cc1, rfl, ix1⟩ := h1
          go_simp
          (with_reducible refine Calls.cQ (refQC (by omega)) ?_); intros
          refine hK.out _ _ _ rfl (inferInstance : Kp W _).out ?_ ?_
          · exact phiQ.fin rfl (by omega)
          · exact fun h => absurd h (by decide)
        · refine ⟨_, by simp; rfl, fun K' hK => ?_⟩
          clear hp
          simp only [putAll, Act.put, List.setIfInBounds_toArray, List.set_cons_zero, List.set_cons_succ] at hK ⊢
          generalize f 1 = v1 at *
          generalize f 3 = v3 at *
          generalize f 4 = v4 at *
          generalize f 5 = v5 at *
          go_simp
          refine hK.out _ _ _ rfl (inferInstance : Kp W _).out ?_ ?_
          · exact phiB.fin
          · exact fun _ => ⟨_, rfl, Nat.le_refl _⟩
        · refine ⟨_, by simp; rfl, fun K' hK => ?_⟩
          clear hp
          simp only [putAll, Act.put, List.setIfInBounds_toArray, List.set_cons_zero, List.set_cons_succ] at hK ⊢
          generalize f 1 = v1 at *
          generalize f 3 = v3 at *
          generalize f 4 = v4 at *
          generalize f 5 = v5 at *
          go_simp
          refine hK.out _ _ _ rfl (inferInstance : Kp W _).out ?_ ?_
          · exact phiB.fin
          · exact fun _ => ⟨_, rfl, Nat.le_refl _⟩
      intro f W hSw hbw hf hne
      have kw := Kp1.mk hbw
      have hSx := Ex1.mk hSw
      clear hHeld
      have kv := kpOf ew (W := W)
      have kz : Kz w0 W := ⟨kv.out.size⟩
      have h1 : phiQ x 12 (f 1) W := hf 1 (by decide)
      have h3 : phiQ y 12 (f 3) W := hf 3 (by decide)
      have h4 : phiB w0 34 [.bool false, .slice none 0 0, .slice none 0 0] (f 4) W := hf 4 (by decide)
      have h5 : phiB w0 34 [.bool false, .slice none 0 0, .slice none 0 0] (f 5) W := hf 5 (by decide)
      have n4_5 := hne 4 5 (by decide) (by decide) (by decide) (by decide) (by decide)
      clear hf hne
      simp only [putAll, lset, List.map_cons, List.map_nil, Act.put, List.setIfInBounds_toArray, List.set_cons_zero, List.set_cons_succ]
      generalize f 1 = v1 at *
      generalize f 3 = v3 at *
      generalize f 4 = v4 at *
      generalize f 5 = v5 at *
      obtain ⟨g1, a1, l1, c1, aa1, ll1, cc1, rfl, ix1⟩ := h1
      obtain ⟨g3, a3, l3, c3, aa3, ll3, cc3, rfl, ix3⟩ := h3
      obtain ⟨b4, rfl, i4, j4, k4⟩ := h4
      obtain ⟨b5, rfl, i5, j5, k5⟩ := h5
      have nw4 := nwOf ew j4
      have gg4 := ggOf ew k4
      have gl4 : Ge w b4 := ⟨by have h2 := j4.out; rw [ew.out] at h2; exact Nat.le_trans (inferInstance : Kp w _).out.size h2⟩
      have nw5 := nwOf ew j5
      have gg5 := ggOf ew k5
      have gl5 : Ge w b5 := ⟨by have h2 := j5.out; rw [ew.out] at h2; exact Nat.le_trans (inferInstance : Kp w _).out.size h2⟩
      have n4_5 := ptr_ne n4_5
      have n5_4 : NeN b5 b4 := ⟨fun e => n4_5.out e.symm⟩
      have hHeld := hSw
      refine st 6 fun K hK => ?_
      go_simp
      refine hd hK ?_
      clear hHeld hK K
      intro hHeld
      refine st 7 fun K hK => ?_
      go_simp
      refine hd hK ?_
      clear hHeld hK K
      intro hHeld
      refine dn ?_
      clear hHeld
      go_wp2_with (first | (go_at_call 14; (with_reducible refine Calls.cAB (ratNewC (by omega) HQ) ?_); intros) | (go_at_call 15; (with_reducible refine Calls.cIz (refIC (by omega)) HQ0.out ?_); intros))
      refine rgn [] [] fun hHeld => ?_
      refine tk 0 hHeld ?_
      refine tk 1 hHeld ?_
      refine tk 2 hHeld ?_
      refine tk 3 hHeld ?_
      refine tk 4 hHeld ?_
      refine tk 5 hHeld ?_
      refine tk 6 hHeld ?_
      refine tk 7 hHeld ?_
      refine tk 8 hHeld ?_
      refine tk 9 hHeld ?_
      refine tk 10 hHeld ?_
      refine tk 11 hHeld ?_
      refine st 12 fun K hK => ?_
      go_simp
      (with_reducible refine Calls.cE (same03E (by omega) HZ.out) ?_); intros
      refine hd hK ?_
      clear hHeld hK K
      intro hHeld
      refine tk 13 hHeld ?_
      refine tk 14 hHeld ?_
      refine tk 15 hHeld ?_
      refine tk 16 hHeld ?_
      refine tk 17 hHeld ?_
      refine tk 18 hHeld ?_
      refine tkU 19 hHeld ?_
      refine tkU 20 hHeld ?_
      refine tkU 21 hHeld ?_
      refine tkU 22 hHeld ?_
      refine tkU 23 hHeld ?_
      refine tkU 24 hHeld ?_
      refine tkU 25 hHeld ?_
      refine tkU 26 hHeld ?_
      refine tkU 27 hHeld ?_
      refine tkU 28 hHeld ?_
      refine tk 29 hHeld ?_
      refine tk 30 hHeld ?_
      refine dn ?_
      clear hHeld
      go_wp2_with fail
      refine rgn [] [] fun hHeld => ?_
      refine st 0 fun K hK => ?_
      go_simp
      (with_reducible refine Calls.cE (known03C inferInstance inferInstance inferInstance hne) ?_); intros
      refine hd hK ?_
      clear hHeld hK K
      intro hHeld
      refine tk 1 hHeld ?_
      refine tk 2 hHeld ?_
      refine tk 4 hHeld ?_
      refine st 3 fun K hK => ?_
      go_simp
      (with_reducible refine Calls.cA (ratNormC (by omega)) ?_); intros
      refine hd hK ?_
      clear hHeld hK K
      intro hHeld
      refine st 5 fun K hK => ?_
      go_simp
      (with_reducible refine Calls.cE (same03E (by omega) rfl) ?_); intros
      refine hd hK ?_
      clear hHeld hK K
      intro hHeld
      refine tk 6 hHeld ?_
      refine tk 7 hHeld ?_
      refine tk 8 hHeld ?_
      refine tk 10 hHeld ?_
      refine st 9 fun K hK => ?_
      go_simp
      (with_reducible refine Calls.cE (ratNormalL hN.out HN) ?_); intros
      refine hd hK ?_
      clear hHeld hK K
      intro hHeld
      refine st 11 fun K hK => ?_
      go_simp
      (with_reducible refine Calls.cE (normalQL hN.out HN) ?_); intros
      refine hd hK ?_
      clear hHeld hK K
      intro hHeld
      refine tk 12 hHeld ?_
      refine tk 13 hHeld ?_
      refine tk 14 hHeld ?_
      refine tk 15 hHeld ?_
      refine tk 17 hHeld ?_
      refine st 16 fun K hK => ?_
      go_simp
      (with_reducible refine Calls.cA (ratFromIntC HM.out) ?_); intros
      refine hd hK ?_
      clear hHeld hK K
      intro hHeld
      refine st 18 fun K hK => ?_
      go_simp
      (with_reducible refine Calls.cQ (numOfC HM.out) ?_); intros
      refine hd hK ?_
      clear hHeld hK K
      intro hHeld
      refine st 19 fun K hK => ?_
      go_simp
      (with_reducible refine Calls.cE (same03E (by omega) rfl) ?_); intros
      refine hd hK ?_
      clear hHeld hK K
      intro hHeld
      refine tk 20 hHeld ?_
      refine tk 21 hHeld ?_
      refine tk 22 hHeld ?_
      refine tk 24 hHeld ?_
      refine st 23 fun K hK => ?_
      go_simp
      (with_reducible refine Calls.cE (ratSignV (by omega) HS) ?_); intros
      refine hd hK ?_
      clear hHeld hK K
      intro hHeld
      refine st 25 fun K hK => ?_
      go_simp
      (with_reducible refine Calls.cE (numSV HS) ?_); intros
      refine hd hK ?_
      clear hHeld hK K
      intro hHeld
      refine tk 26 hHeld ?_
      refine tk 27 hHeld ?_
      refine tk 28 hHeld ?_
      refine tk 29 hHeld ?_
      refine tk 30 hHeld ?_
      refine tk 32 hHeld ?_
      refine tk 33 hHeld ?_
      refine st 31 fun K hK => ?_
      go_simp
      (with_reducible refine Calls.cE (ratCmpV (by omega) HC) ?_); intros
      refine hd hK ?_
      clear hHeld hK K
      intro hHeld
      refine st 34 fun K hK => ?_
      go_simp
      (with_reducible refine Calls.cE (numCV (by omega) HC) ?_); intros
      refine hd hK ?_
      clear hHeld hK K
      intro hHeld
      refine tk 35 hHeld ?_
      refine tk 36 hHeld ?_
      refine tk 37 hHeld ?_
      refine dn ?_
      clear hHeld
      go_wp2
      go_ret
      exact E.fin rfl
    · have HQ : Hid (decide (q ≠ 0) = true) := decide_eq_true hq
      have HQ0 := Lib.hid hq
      have HQ1 : Hid (((q : Int) : Rat) ≠ 0) := fun e => hq (by exact_mod_cast e)
      clear hq
      go_enter Tryz.func3, Tryz.ntmps3
      go_wp2_with (go_at_call 11; (with_reducible refine Calls.cE (smallQ2 HV) ?_); intros)
      refine rgnW [] [] fun w0 ew hHeld => ?_
      refine tk 0 hHeld ?_
      refine tk 2 hHeld ?_
      refine wpAnyT_inv [(1, 19), (3, 21), (4, 7), (5, 8)] (fun i => match i with | 1 => [] | 3 => [1] | 4 => [] | 5 => [] | _ => []) [phiQ x 12, phiQ y 12, phiB w0 34 [.bool false, .slice none 0 0, .slice none 0 0], phiB w0 34 [.bool false, .slice none 0 0, .slice none 0 0]] [4, 5] 2 (by rfl) (by decide +kernel) (by decide) (by decide) (by kernel_rfl) ?_ (fun _ _ => Ex.below) hHeld ?_ ?_
      · intro i hi v W h
        simp only [List.mem_cons, List.not_mem_nil, or_false] at hi
        rcases hi with rfl | rfl
        all_goals exact phiB.old h
      · intro i hi f W hSw hbw hp
        have kw := Kp1.mk hbw
        have kv := kpOf ew (W := W)
        have kz : Kz w0 W := ⟨kv.out.size⟩
        have hSx := Ex1.mk hSw
        clear hHeld
        simp only [List.map_cons, List.map_nil, List.mem_cons, List.not_mem_nil, or_false] at hi
        rcases hi with rfl | rfl | rfl | rfl
        · refine ⟨_, by simp; rfl, fun K' hK => ?_⟩
          clear hp
          simp only [putAll, Act.put, List.setIfInBounds_toArray, List.set_cons_zero, List.set_cons_succ] at hK ⊢
          generalize f 1 = v1 at *
          generalize f 3 = v3 at *
          generalize f 4 = v4 at *
          generalize f 5 = v5 at *
          go_simp
          (with_reducible refine Calls.cQ (refQC (by omega)) ?_); intros
          refine hK.out _ _ _ rfl (inferInstance : Kp W _).out ?_ ?_
          · exact phiQ.fin rfl (by omega)
          · exact fun h => absurd h (by decide)
        · have h1 : phiQ x 12 (f 1) W := hp 1 (by decide)
          refine ⟨_, by simp; rfl, fun K' hK => ?_⟩
          clear hp
          simp only [putAll, Act.put, List.setIfInBounds_toArray, List.set_cons_zero, List.set_cons_succ] at hK ⊢
          generalize f 1 = v1 at *
          generalize f 3 = v3 at *
          generalize f 4 = v4 at *
          generalize f 5 = v5 at *
          obtain ⟨g1, a1, l1, c1, aa1, ll1, cc1, rfl, ix1⟩ := h1
          go_simp
          (with_reducible refine Calls.cQ (refQC (by omega)) ?_); intros
          refine hK.out _ _ _ rfl (inferInstance : Kp W _).out ?_ ?_
          · exact phiQ.fin rfl (by omega)
          · exact fun h => absurd h (by decide)
        · refine ⟨_, by simp; rfl, fun K' hK => ?_⟩
          clear hp
          simp only [putAll, Act.put, List.setIfInBounds_toArray, List.set_cons_zero, List.set_cons_succ] at hK ⊢
          generalize f 1 = v1 at *
          generalize f 3 = v3 at *
          generalize f 4 = v4 at *
          generalize f 5 = v5 at *
          go_simp
          refine hK.out _ _ _ rfl (inferInstance : Kp W _).out ?_ ?_
          · exact phiB.fin
          · exact fun _ => ⟨_, rfl, Nat.le_refl _⟩
        · refine ⟨_, by simp; rfl, fun K' hK => ?_⟩
          clear hp
          simp only [putAll, Act.put, List.setIfInBounds_toArray, List.set_cons_zero, List.set_cons_succ] at hK ⊢
          generalize f 1 = v1 at *
          generalize f 3 = v3 at *
          generalize f 4 = v4 at *
          generalize f 5 = v5 at *
          go_simp
          refine hK.out _ _ _ rfl (inferInstance : Kp W _).out ?_ ?_
          · exact phiB.fin
          · exact fun _ => ⟨_, rfl, Nat.le_refl _⟩
      intro f W hSw hbw hf hne
      have kw := Kp1.mk hbw
      have hSx := Ex1.mk hSw
      clear hHeld
      have kv := kpOf ew (W := W)
      have kz : Kz w0 W := ⟨kv.out.size⟩
      have h1 : phiQ x 12 (f 1) W := hf 1 (by decide)
      have h3 : phiQ y 12 (f 3) W := hf 3 (by decide)
      have h4 : phiB w0 34 [.bool false, .slice none 0 0, .slice none 0 0] (f 4) W := hf 4 (by decide)
      have h5 : phiB w0 34 [.bool false, .slice none 0 0, .slice none 0 0] (f 5) W := hf 5 (by decide)
      have n4_5 := hne 4 5 (by decide) (by decide) (by decide) (by decide) (by decide)
      clear hf hne
      simp only [putAll, lset, List.map_cons, List.map_nil, Act.put, List.setIfInBounds_toArray, List.set_cons_zero, List.set_cons_succ]
      generalize f 1 = v1 at *
      generalize f 3 = v3 at *
      generalize f 4 = v4 at *
      generalize f 5 = v5 at *
      obtain ⟨g1, a1, l1, c1, aa1, ll1, cc1, rfl, ix1⟩ := h1
      obtain ⟨g3, a3, l3, c3, aa3, ll3, cc3, rfl, ix3⟩ := h3
      obtain ⟨b4, rfl, i4, j4, k4⟩ := h4
      obtain ⟨b5, rfl, i5, j5, k5⟩ := h5
      have nw4 := nwOf ew j4
      have gg4 := ggOf ew k4
      have gl4 : Ge w b4 := ⟨by have h2 := j4.out; rw [ew.out] at h2; exact Nat.le_trans (inferInstance : Kp w _).out.size h2⟩
      have nw5 := nwOf ew j5
      have gg5 := ggOf ew k5
      have gl5 : Ge w b5 := ⟨by have h2 := j5.out; rw [ew.out] at h2; exact Nat.le_trans (inferInstance : Kp w _).out.size h2⟩
      have n4_5 := ptr_ne n4_5
      have n5_4 : NeN b5 b4 := ⟨fun e => n4_5.out e.symm⟩
      have hHeld := hSw
      refine st 6 fun K hK => ?_
      go_simp
      refine hd hK ?_
      clear hHeld hK K
      intro hHeld
      refine st 7 fun K hK => ?_
      go_simp
      refine hd hK ?_
      clear hHeld hK K
      intro hHeld
      refine dn ?_
      clear hHeld
      go_wp2_with (first | (go_at_call 14; (with_reducible refine Calls.cAB (ratNewC (by omega) HQ) ?_); intros) | (go_at_call 15; (with_reducible refine Calls.cIp (refIC (by omega)) HQ0.out ?_); intros))
      refine rgn [] [] fun hHeld => ?_
      refine tk 0 hHeld ?_
      refine tk 1 hHeld ?_
      refine tk 2 hHeld ?_
      refine tk 3 hHeld ?_
      refine tk 4 hHeld ?_
      refine tk 5 hHeld ?_
      refine tk 6 hHeld ?_
      refine tk 7 hHeld ?_
      refine tk 8 hHeld ?_
      refine tk 9 hHeld ?_
      refine tkU 10 hHeld ?_
      refine tkU 11 hHeld ?_
      refine tkU 12 hHeld ?_
      refine tkU 13 hHeld ?_
      refine tk 14 hHeld ?_
      refine tk 15 hHeld ?_
      refine tk 16 hHeld ?_
      refine tk 17 hHeld ?_
      refine tk 18 hHeld ?_
      refine tk 19 hHeld ?_
      refine tk 20 hHeld ?_
      refine tk 21 hHeld ?_
      refine tk 24 hHeld ?_
      refine tk 25 hHeld ?_
      refine st 22 fun K hK => ?_
      go_simp
      (with_reducible refine Calls.cZ (refIC (by omega)) ?_); intros
      refine hd hK ?_
      clear hHeld hK K
      intro hHeld
      refine tk 23 hHeld ?_
      refine st 26 fun K hK => ?_
      go_simp
      (with_reducible refine Calls.cQ (numOverC (by omega) HQ1.out) ?_); intros
      refine hd hK ?_
      clear hHeld hK K
      intro hHeld
      refine st 27 fun K hK => ?_
      go_simp
      (with_reducible refine Calls.cE (same03E (by omega) rfl) ?_); intros
      refine hd hK ?_
      clear hHeld hK K
      intro hHeld
      refine tk 28 hHeld ?_
      refine tk 29 hHeld ?_
      refine tk 30 hHeld ?_
      refine dn ?_
      clear hHeld
      go_wp2_with fail
      refine rgn [] [] fun hHeld => ?_
      refine st 0 fun K hK => ?_
      go_simp
      (with_reducible refine Calls.cE (known03C inferInstance inferInstance inferInstance hne) ?_); intros
      refine hd hK ?_
      clear hHeld hK K
      intro hHeld
      refine tk 1 hHeld ?_
      refine tk 2 hHeld ?_
      refine tk 4 hHeld ?_
      refine st 3 fun K hK => ?_
      go_simp
      (with_reducible refine Calls.cA (ratNormC (by omega)) ?_); intros
      refine hd hK ?_
      clear hHeld hK K
      intro hHeld
      refine st 5 fun K hK => ?_
      go_simp
      (with_reducible refine Calls.cE (same03E (by omega) rfl) ?_); intros
      refine hd hK ?_
      clear hHeld hK K
      intro hHeld
      refine tk 6 hHeld ?_
      refine tk 7 hHeld ?_
      refine tk 8 hHeld ?_
      refine tk 10 hHeld ?_
      refine st 9 fun K hK => ?_
      go_simp
      (with_reducible refine Calls.cE (ratNormalL hN.out HN) ?_); intros
      refine hd hK ?_
      clear hHeld hK K
      intro hHeld
      refine st 11 fun K hK => ?_
      go_simp
      (with_reducible refine Calls.cE (normalQL hN.out HN) ?_); intros
      refine hd hK ?_
      clear hHeld hK K
      intro hHeld
      refine tk 12 hHeld ?_
      refine tk 13 hHeld ?_
      refine tk 14 hHeld ?_
      refine tk 15 hHeld ?_
      refine tk 17 hHeld ?_
      refine st 16 fun K hK => ?_
      go_simp
      (with_reducible refine Calls.cA (ratFromIntC HM.out) ?_); intros
      refine hd hK ?_
      clear hHeld hK K
      intro hHeld
      refine st 18 fun K hK => ?_
      go_simp
      (with_reducible refine Calls.cQ (numOfC HM.out) ?_); intros
      refine hd hK ?_
      clear hHeld hK K
      intro hHeld
      refine st 19 fun K hK => ?_
      go_simp
      (with_reducible refine Calls.cE (same03E (by omega) rfl) ?_); intros
      refine hd hK ?_
      clear hHeld hK K
      intro hHeld
      refine tk 20 hHeld ?_
      refine tk 21 hHeld ?_
      refine tk 22 hHeld ?_
      refine tk 24 hHeld ?_
      refine st 23 fun K hK => ?_
      go_simp
      (with_reducible refine Calls.cE (ratSignV (by omega) HS) ?_); intros
      refine hd hK ?_
      clear hHeld hK K
      intro hHeld
      refine st 25 fun K hK => ?_
      go_simp
      (with_reducible refine Calls.cE (numSV HS) ?_); intros
      refine hd hK ?_
      clear hHeld hK K
      intro hHeld
      refine tk 26 hHeld ?_
      refine tk 27 hHeld ?_
      refine tk 28 hHeld ?_
      refine tk 29 hHeld ?_
      refine tk 30 hHeld ?_
      refine tk 32 hHeld ?_
      refine tk 33 hHeld ?_
      refine st 31 fun K hK => ?_
      go_simp
      (with_reducible refine Calls.cE (ratCmpV (by omega) HC) ?_); intros
      refine hd hK ?_
      clear hHeld hK K
      intro hHeld
      refine st 34 fun K hK => ?_
      go_simp
      (with_reducible refine Calls.cE (numCV (by omega) HC) ?_); intros
      refine hd hK ?_
      clear hHeld hK K
      intro hHeld
      refine tk 35 hHeld ?_
      refine tk 36 hHeld ?_
      refine tk 37 hHeld ?_
      refine dn ?_
      clear hHeld
      go_wp2
      go_ret
      exact E.fin rfl
end Go.Proofs.YtfdgglddldlpjaaGreatDoor
