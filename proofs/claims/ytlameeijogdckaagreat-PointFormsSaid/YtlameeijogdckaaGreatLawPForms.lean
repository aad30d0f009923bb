/-
  The walk of the law PointForms: it returns true and changes nothing that was there.
  Printed by a small program (mkpf.py).
-/
import Derived.Test.YtlameeijogdckaaGreatTK
import Derived.Test.YtlameeijogdckaaGreatRI
import Derived.Test.YtlameeijogdckaaGreatNPO
namespace Go.Proofs.YtlameeijogdckaaGreat
open Go.RowKit

set_option linter.unusedSimpArgs false
def F2Rel (W7 : World) (x1 y1 x2 y2 : Rat) (p q : Value) (wx : World) : Prop := ∃ (b1 b2 : Nat) (g1x : Bool) (a1x : Option Addr) (l1x c1x : Nat) (aa1x : Option Addr) (ll1x cc1x : Nat) (g1y : Bool) (a1y : Option Addr) (l1y c1y : Nat) (aa1y : Option Addr) (ll1y cc1y : Nat) (g2x : Bool) (a2x : Option Addr) (l2x c2x : Nat) (aa2x : Option Addr) (ll2x cc2x : Nat) (g2y : Bool) (a2y : Option Addr) (l2y c2y : Nat) (aa2y : Option Addr) (ll2y cc2y : Nat), p = .pointer (some ⟨b1, 0, none⟩) ∧ q = .pointer (some ⟨b2, 0, none⟩) ∧ Bx wx b1 38 [.bool g1x, .slice a1x l1x c1x, .slice aa1x ll1x cc1x, .bool g1y, .slice a1y l1y c1y, .slice aa1y ll1y cc1y] ∧ Bx wx b2 38 [.bool g2x, .slice a2x l2x c2x, .slice aa2x ll2x cc2x, .bool g2y, .slice a2y l2y c2y, .slice aa2y ll2y cc2y] ∧ CQ wx (.agg #[.bool g1x, .slice a1x l1x c1x, .slice aa1x ll1x cc1x]) x1 20 ∧ CQ wx (.agg #[.bool g1y, .slice a1y l1y c1y, .slice aa1y ll1y cc1y]) y1 20 ∧ CQ wx (.agg #[.bool g2x, .slice a2x l2x c2x, .slice aa2x ll2x cc2x]) x2 20 ∧ CQ wx (.agg #[.bool g2y, .slice a2y l2y c2y, .slice aa2y ll2y cc2y]) y2 20 ∧ Kp W7 wx
theorem F2Rel.intro {W7 wx : World} {x1 y1 x2 y2 : Rat} {b1 b2 : Nat} {k1x k1y k2x k2y : Nat} {g1x : Bool} {a1x : Option Addr} {l1x c1x : Nat} {aa1x : Option Addr} {ll1x cc1x : Nat} {g1y : Bool} {a1y : Option Addr} {l1y c1y : Nat} {aa1y : Option Addr} {ll1y cc1y : Nat} {g2x : Bool} {a2x : Option Addr} {l2x c2x : Nat} {aa2x : Option Addr} {ll2x cc2x : Nat} {g2y : Bool} {a2y : Option Addr} {l2y c2y : Nat} {aa2y : Option Addr} {ll2y cc2y : Nat} [i1 : Bx wx b1 38 [.bool g1x, .slice a1x l1x c1x, .slice aa1x ll1x cc1x, .bool g1y, .slice a1y l1y c1y, .slice aa1y ll1y cc1y]] [i2 : Bx wx b2 38 [.bool g2x, .slice a2x l2x c2x, .slice aa2x ll2x cc2x, .bool g2y, .slice a2y l2y c2y, .slice aa2y ll2y cc2y]] [j1x : CQ wx (.agg #[.bool g1x, .slice a1x l1x c1x, .slice aa1x ll1x cc1x]) x1 k1x] [j1y : CQ wx (.agg #[.bool g1y, .slice a1y l1y c1y, .slice aa1y ll1y cc1y]) y1 k1y] [j2x : CQ wx (.agg #[.bool g2x, .slice a2x l2x c2x, .slice aa2x ll2x cc2x]) x2 k2x] [j2y : CQ wx (.agg #[.bool g2y, .slice a2y l2y c2y, .slice aa2y ll2y cc2y]) y2 k2y] [k : Kp W7 wx] (m : k1x ≤ 20 ∧ k1y ≤ 20 ∧ k2x ≤ 20 ∧ k2y ≤ 20) : F2Rel W7 x1 y1 x2 y2 (.pointer (some ⟨b1, 0, none⟩)) (.pointer (some ⟨b2, 0, none⟩)) wx :=
  ⟨b1, b2, g1x, a1x, l1x, c1x, aa1x, ll1x, cc1x, g1y, a1y, l1y, c1y, aa1y, ll1y, cc1y, g2x, a2x, l2x, c2x, aa2x, ll2x, cc2x, g2y, a2y, l2y, c2y, aa2y, ll2y, cc2y, rfl, rfl, i1, i2, j1x.cast rfl (by omega), j1y.cast rfl (by omega), j2x.cast rfl (by omega), j2y.cast rfl (by omega), k⟩
theorem wf64 {a : Int} (h : (Lit.int .i64 a).wf = true) : -9223372036854775808 ≤ a ∧ a < 9223372036854775808 := by
  have h2 : -9223372036854775808 ≤ a ∧ a ≤ 9223372036854775807 := by simpa [Lit.wf, IntKind.min, IntKind.max, IntKind.signed, IntKind.bits] using h
  omega
set_option maxRecDepth 100000 in
set_option maxHeartbeats 40000000 in
set_option synthInstance.maxSize 100000 in
set_option synthInstance.maxHeartbeats 1000000 in
theorem pointForms_walk (g0 : Bool) (a0 : Option Addr) (l0 c0 : Nat) (z0 : List Int) (aa0 : Option Addr) (ll0 cc0 : Nat) (zz0 : List Int) (G0 : Bool) (A0 : Option Addr) (L0 C0 : Nat) (Z0 : List Int) (AA0 : Option Addr) (LL0 CC0 : Nat) (ZZ0 : List Int) (g1 : Bool) (a1 : Option Addr) (l1 c1 : Nat) (z1 : List Int) (aa1 : Option Addr) (ll1 cc1 : Nat) (zz1 : List Int) (G1 : Bool) (A1 : Option Addr) (L1 C1 : Nat) (Z1 : List Int) (AA1 : Option Addr) (LL1 CC1 : Nat) (ZZ1 : List Int) (a2 a3 : Int) (w : World) (w0a : IsRow .u32 w a0 l0 c0 z0) (w0b : IsRow .u32 w aa0 ll0 cc0 zz0) (w0c : IsRow .u32 w A0 L0 C0 Z0) (w0d : IsRow .u32 w AA0 LL0 CC0 ZZ0) (w1a : IsRow .u32 w a1 l1 c1 z1) (w1b : IsRow .u32 w aa1 ll1 cc1 zz1) (w1c : IsRow .u32 w A1 L1 C1 Z1) (w1d : IsRow .u32 w AA1 LL1 CC1 ZZ1) (w2 : (Lit.int .i64 a2).wf = true) (w3 : (Lit.int .i64 a3).wf = true) :
    Calls Tryz.prog 3 #[.agg #[.bool g0, .slice a0 l0 c0, .slice aa0 ll0 cc0, .bool G0, .slice A0 L0 C0, .slice AA0 LL0 CC0], .agg #[.bool g1, .slice a1 l1 c1, .slice aa1 ll1 cc1, .bool G1, .slice A1 L1 C1, .slice AA1 LL1 CC1], .int .i64 a2, .int .i64 a3] w fun e w' => e = .returned (.bool true) ∧ Below w.heap.size w w' := by
  obtain ⟨D0a, e0a, i0a⟩ := rl_row w0a
  obtain ⟨D0b, e0b, i0b⟩ := rl_row w0b
  obtain ⟨D0c, e0c, i0c⟩ := rl_row w0c
  obtain ⟨D0d, e0d, i0d⟩ := rl_row w0d
  obtain ⟨D1a, e1a, i1a⟩ := rl_row w1a
  obtain ⟨D1b, e1b, i1b⟩ := rl_row w1b
  obtain ⟨D1c, e1c, i1c⟩ := rl_row w1c
  obtain ⟨D1d, e1d, i1d⟩ := rl_row w1d
  have m2 := wf64 w2
  have m3 := wf64 w3
  clear w0a w0b w0c w0d w1a w1b w1c w1d w2 w3
  obtain ⟨v, hv⟩ : ∃ v, (small4 6 l0 ll0 L0 LL0 && small4 6 l1 ll1 L1 LL1) = v := ⟨_, rfl⟩
  have HV := Lib.hid hv
  cases v with
  | false =>
    clear hv
    go_enter Tryz.func3, Tryz.ntmps3
    go_wp2_with (first | (go_at_call 12; (with_reducible refine Calls.cE (smallP2 HV) ?_); intros) | (go_at_call 13; (with_reducible refine Calls.cE (known04C) ?_); intros))
    go_ret
    exact E.fin rfl
  | true =>
    have hs : (l0 ≤ 6 ∧ ll0 ≤ 6 ∧ L0 ≤ 6 ∧ LL0 ≤ 6) ∧ (l1 ≤ 6 ∧ ll1 ≤ 6 ∧ L1 ≤ 6 ∧ LL1 ≤ 6) := by simpa [small4] using hv
    obtain ⟨⟨s1, s2, s3, s4⟩, s5, s6, s7, s8⟩ := hs
    clear hv
    obtain ⟨n, hn⟩ : ∃ n, (nrmQ g0 D0a D0b && nrmQ G0 D0c D0d) = n := ⟨_, rfl⟩
    have HN := Lib.hid hn
    clear hn
    rw [← e0a] at s1
    rw [← e0b] at s2
    rw [← e0c] at s3
    rw [← e0d] at s4
    rw [← e1a] at s5
    rw [← e1b] at s6
    rw [← e1c] at s7
    rw [← e1d] at s8
    clear e0a e0b e0c e0d e1a e1b e1c e1d
    go_enter Tryz.func3, Tryz.ntmps3
    go_wp2_with (go_at_call 12; (with_reducible refine Calls.cE (smallP2 HV) ?_); intro W1 _)
    go_upto_region 3 with fail
    go_cut [9, 10] from 17 to 20 (fun p q wx => F2Rel W1 (mkRat (sgn g0 (val D0a)) (val D0b)) (mkRat (sgn G0 (val D0c)) (val D0d)) (mkRat (sgn g1 (val D1a)) (val D1b)) (mkRat (sgn G1 (val D1c)) (val D1d)) p q wx)
    case first =>
      refine region_t (by kernel_rfl) [] (List.contains []) (fun hHeld => ?_)
      refine wpAnyT_take (i := 0) (v := ?z420) (by simp; rfl) (by kernel_rfl) (by kernel_rfl) (by kernel_rfl) (by exact fun _ _ _ h => h) (T_waits (by kernel_rfl)) (Or.inl ⟨by rfl, ?yz420⟩) hHeld ?_
      case yz420 => (intro wx hSw; have hSx := Ex1.mk hSw; go_simp; (try with_reducible rfl))
      try simp only [Act.put, List.setIfInBounds_toArray, List.set_cons_zero, List.set_cons_succ]
      refine wpAnyT_take (i := 2) (v := ?z421) (by simp; rfl) (by kernel_rfl) (by kernel_rfl) (by kernel_rfl) (by exact fun _ _ _ h => h) (T_waits (by kernel_rfl)) (Or.inl ⟨by rfl, ?yz421⟩) hHeld ?_
      case yz421 => (intro wx hSw; have hSx := Ex1.mk hSw; go_simp; (try with_reducible rfl))
      try simp only [Act.put, List.setIfInBounds_toArray, List.set_cons_zero, List.set_cons_succ]
      refine wpAnyT_inv [(1, 18), (3, 20), (4, 9), (5, 10)] (fun i => match i with | 1 => [] | 3 => [1] | 4 => [] | 5 => [] | _ => []) [phiPQ (mkRat (sgn g0 (val D0a)) (val D0b)) (mkRat (sgn G0 (val D0c)) (val D0d)) 20, phiPQ (mkRat (sgn g1 (val D1a)) (val D1b)) (mkRat (sgn G1 (val D1c)) (val D1d)) 20, phiB W1 38 [.bool false, .slice none 0 0, .slice none 0 0, .bool false, .slice none 0 0, .slice none 0 0], phiB W1 38 [.bool false, .slice none 0 0, .slice none 0 0, .bool false, .slice none 0 0, .slice none 0 0]] [4, 5] 2 (by rfl) (by decide +kernel) (by decide) (by decide) (by kernel_rfl) ?_ (fun _ _ => Ex.below) hHeld ?_ ?_
      · intro i hi v W h
        simp only [List.mem_cons, List.not_mem_nil, or_false] at hi
        rcases hi with rfl | rfl
        all_goals exact phiB.old h
      · intro i hi f W hSw hbw hp
        have kw := Kp1.mk hbw
        have hSx := Ex1.mk hSw
        clear hHeld
        simp only [List.map_cons, List.map_nil, List.mem_cons, List.not_mem_nil, or_false] at hi
        rcases hi with rfl | rfl | rfl | rfl
        · refine ⟨_, by simp; rfl, fun K' hK => ?_⟩
          clear hp
          simp only [putAll, Act.put, List.setIfInBounds_toArray, List.set_cons_zero, List.set_cons_succ] at hK ⊢
          generalize f 1 = v1 at *
          generalize f 3 = v3 at *
          generalize f 4 = v4 at *
          generalize f 5 = v5 at *
          go_simp
          (go_at_call 14; (with_reducible refine Calls.cPQ (refPtC (by omega)) ?_); intros)
          refine hK.out _ _ _ rfl ?_ ?_ ?_
          · exact (inferInstance : Kp W _).out
          · show phiPQ (mkRat (sgn g0 (val D0a)) (val D0b)) (mkRat (sgn G0 (val D0c)) (val D0d)) 20 _ _
            exact phiPQ.fin (by omega) (by omega)
          · exact fun h => absurd h (by decide)
        · have h1 : phiPQ (mkRat (sgn g0 (val D0a)) (val D0b)) (mkRat (sgn G0 (val D0c)) (val D0d)) 20 (f 1) W := hp 1 (by decide)
          refine ⟨_, by simp; rfl, fun K' hK => ?_⟩
          clear hp
          simp only [putAll, Act.put, List.setIfInBounds_toArray, List.set_cons_zero, List.set_cons_succ] at hK ⊢
          generalize f 1 = v1 at *
          generalize f 3 = v3 at *
          generalize f 4 = v4 at *
          generalize f 5 = v5 at *
          obtain ⟨gq1, aq1, lq1, cq1, aaq1, llq1, ccq1, Gq1, Aq1, Lq1, Cq1, AAq1, LLq1, CCq1, rfl, iq1, jq1⟩ := h1
          go_simp
          (go_at_call 14; (with_reducible refine Calls.cPQ (refPtC (by omega)) ?_); intros)
          refine hK.out _ _ _ rfl ?_ ?_ ?_
          · exact (inferInstance : Kp W _).out
          · show phiPQ (mkRat (sgn g1 (val D1a)) (val D1b)) (mkRat (sgn G1 (val D1c)) (val D1d)) 20 _ _
            exact phiPQ.fin (by omega) (by omega)
          · exact fun h => absurd h (by decide)
        · refine ⟨_, by simp; rfl, fun K' hK => ?_⟩
          clear hp
          simp only [putAll, Act.put, List.setIfInBounds_toArray, List.set_cons_zero, List.set_cons_succ] at hK ⊢
          generalize f 1 = v1 at *
          generalize f 3 = v3 at *
          generalize f 4 = v4 at *
          generalize f 5 = v5 at *
          go_simp
          refine hK.out _ _ _ rfl ?_ ?_ ?_
          · exact (inferInstance : Kp W _).out
          · show phiB W1 38 [.bool false, .slice none 0 0, .slice none 0 0, .bool false, .slice none 0 0, .slice none 0 0] _ _
            exact phiB.fin
          · exact fun _ => ⟨_, rfl, Nat.le_refl _⟩
        · refine ⟨_, by simp; rfl, fun K' hK => ?_⟩
          clear hp
          simp only [putAll, Act.put, List.setIfInBounds_toArray, List.set_cons_zero, List.set_cons_succ] at hK ⊢
          generalize f 1 = v1 at *
          generalize f 3 = v3 at *
          generalize f 4 = v4 at *
          generalize f 5 = v5 at *
          go_simp
          refine hK.out _ _ _ rfl ?_ ?_ ?_
          · exact (inferInstance : Kp W _).out
          · show phiB W1 38 [.bool false, .slice none 0 0, .slice none 0 0, .bool false, .slice none 0 0, .slice none 0 0] _ _
            exact phiB.fin
          · exact fun _ => ⟨_, rfl, Nat.le_refl _⟩
      · intro f W hSw hbw hf hne
        have kw := Kp1.mk hbw
        have hSx := Ex1.mk hSw
        clear hHeld
        have h1 : phiPQ (mkRat (sgn g0 (val D0a)) (val D0b)) (mkRat (sgn G0 (val D0c)) (val D0d)) 20 (f 1) W := hf 1 (by decide)
        have h3 : phiPQ (mkRat (sgn g1 (val D1a)) (val D1b)) (mkRat (sgn G1 (val D1c)) (val D1d)) 20 (f 3) W := hf 3 (by decide)
        have h4 : phiB W1 38 [.bool false, .slice none 0 0, .slice none 0 0, .bool false, .slice none 0 0, .slice none 0 0] (f 4) W := hf 4 (by decide)
        have h5 : phiB W1 38 [.bool false, .slice none 0 0, .slice none 0 0, .bool false, .slice none 0 0, .slice none 0 0] (f 5) W := hf 5 (by decide)
        have n4_5 := hne 4 5 (by decide) (by decide) (by decide) (by decide) (by decide)
        clear hf hne
        simp only [putAll, lset, List.map_cons, List.map_nil, Act.put, List.setIfInBounds_toArray, List.set_cons_zero, List.set_cons_succ]
        generalize f 1 = v1 at *
        generalize f 3 = v3 at *
        generalize f 4 = v4 at *
        generalize f 5 = v5 at *
        obtain ⟨gq1, aq1, lq1, cq1, aaq1, llq1, ccq1, Gq1, Aq1, Lq1, Cq1, AAq1, LLq1, CCq1, rfl, iq1, jq1⟩ := h1
        obtain ⟨gq3, aq3, lq3, cq3, aaq3, llq3, ccq3, Gq3, Aq3, Lq3, Cq3, AAq3, LLq3, CCq3, rfl, iq3, jq3⟩ := h3
        obtain ⟨b4, rfl, i4, j4, k4⟩ := h4
        obtain ⟨b5, rfl, i5, j5, k5⟩ := h5
        have n4_5 := ptr_ne n4_5
        have n5_4 : NeN b5 b4 := ⟨fun e => n4_5.out e.symm⟩
        have hHeld := hSw
        refine wpAnyT_ready (rs := [6]) (by kernel_rfl) (by simp) ?_
        refine AllT.cons (by simp; rfl) (fun K hK => ?_) AllT.nil
        go_simp
        refine hK.out _ _ (fun _ => inferInstance) ?_
        clear hHeld hK K
        intro hHeld
        have hHeld := hHeld (by decide)
        try simp only [Act.put, List.setIfInBounds_toArray, List.set_cons_zero, List.set_cons_succ]
        refine wpAnyT_ready (rs := [7]) (by kernel_rfl) (by simp) ?_
        refine AllT.cons (by simp; rfl) (fun K hK => ?_) AllT.nil
        go_simp
        refine hK.out _ _ (fun _ => inferInstance) ?_
        clear hHeld hK K
        intro hHeld
        have hHeld := hHeld (by decide)
        try simp only [Act.put, List.setIfInBounds_toArray, List.set_cons_zero, List.set_cons_succ]
        refine wpAnyT_done (by kernel_rfl) ?_ _
        clear hHeld
        go_wp2_with fail
        go_meet
        exact F2Rel.intro (by omega)
    case rest =>
      obtain ⟨b1, b2, g1x, a1x, l1x, c1x, aa1x, ll1x, cc1x, g1y, a1y, l1y, c1y, aa1y, ll1y, cc1y, g2x, a2x, l2x, c2x, aa2x, ll2x, cc2x, g2y, a2y, l2y, c2y, aa2y, ll2y, cc2y, rfl, rfl, k1, k2, j1, j2, j3, j4, ⟨k⟩⟩ := hcut
      have k := Kp1.mk k
      go_wp2_with fail
      refine region_cls (by kernel_rfl) [] (fun hHeld => ?_)
      refine wpAnyH_ready (rs := [0]) (by kernel_rfl) (by simp) ?_
      refine AllReadyH.cons (by simp; rfl) (fun K hK => ?_) AllReadyH.nil
      go_simp
      (go_at_call 13; (with_reducible refine Calls.cE (known04C) ?_); intros)
      refine hK.out _ _ inferInstance ?_
      clear hHeld hK K
      intro hHeld
      try simp only [Act.put, List.setIfInBounds_toArray, List.set_cons_zero, List.set_cons_succ]
      refine wpAnyH_take (i := 1) (v := ?z422) (by simp; rfl) (by kernel_rfl) (by kernel_rfl) (by kernel_rfl) (by exact fun _ _ _ h => h) (Or.inl ⟨by rfl, ?yz422⟩) hHeld ?_
      case yz422 => (intro wx hSw; have hSx := Ex1.mk hSw; go_simp; (try with_reducible rfl))
      try simp only [Act.put, List.setIfInBounds_toArray, List.set_cons_zero, List.set_cons_succ]
      refine wpAnyH_take (i := 2) (v := ?z423) (by simp; rfl) (by kernel_rfl) (by kernel_rfl) (by kernel_rfl) (by exact fun _ _ _ h => h) (Or.inl ⟨by rfl, ?yz423⟩) hHeld ?_
      case yz423 => (intro wx hSw; have hSx := Ex1.mk hSw; go_simp; (try with_reducible rfl))
      try simp only [Act.put, List.setIfInBounds_toArray, List.set_cons_zero, List.set_cons_succ]
      refine wpAnyH_take (i := 4) (v := ?z424) (by simp; rfl) (by kernel_rfl) (by kernel_rfl) (by kernel_rfl) (by exact fun _ _ _ h => h) (Or.inl ⟨by rfl, ?yz424⟩) hHeld ?_
      case yz424 => (intro wx hSw; have hSx := Ex1.mk hSw; go_simp; (try with_reducible rfl))
      try simp only [Act.put, List.setIfInBounds_toArray, List.set_cons_zero, List.set_cons_succ]
      refine wpAnyH_ready (rs := [3]) (by kernel_rfl) (by simp) ?_
      refine AllReadyH.cons (by simp; rfl) (fun K hK => ?_) AllReadyH.nil
      go_simp
      (go_at_call 16; (with_reducible refine Calls.cPA (pNormC (by omega)) ?_); intros)
      refine hK.out _ _ inferInstance ?_
      clear hHeld hK K
      intro hHeld
      try simp only [Act.put, List.setIfInBounds_toArray, List.set_cons_zero, List.set_cons_succ]
      refine wpAnyH_ready (rs := [5]) (by kernel_rfl) (by simp) ?_
      refine AllReadyH.cons (by simp; rfl) (fun K hK => ?_) AllReadyH.nil
      go_simp
      (go_at_call 15; (with_reducible refine Calls.cE (same04C (by omega) rfl rfl) ?_); intros)
      refine hK.out _ _ inferInstance ?_
      clear hHeld hK K
      intro hHeld
      try simp only [Act.put, List.setIfInBounds_toArray, List.set_cons_zero, List.set_cons_succ]
      refine wpAnyH_take (i := 6) (v := ?z425) (by simp; rfl) (by kernel_rfl) (by kernel_rfl) (by kernel_rfl) (by exact fun _ _ _ h => h) (Or.inl ⟨by rfl, ?yz425⟩) hHeld ?_
      case yz425 => (intro wx hSw; have hSx := Ex1.mk hSw; go_simp; (try with_reducible rfl))
      try simp only [Act.put, List.setIfInBounds_toArray, List.set_cons_zero, List.set_cons_succ]
      refine wpAnyH_take (i := 7) (v := ?z426) (by simp; rfl) (by kernel_rfl) (by kernel_rfl) (by kernel_rfl) (by exact fun _ _ _ h => h) (Or.inl ⟨by rfl, ?yz426⟩) hHeld ?_
      case yz426 => (intro wx hSw; have hSx := Ex1.mk hSw; go_simp; (try with_reducible rfl))
      try simp only [Act.put, List.setIfInBounds_toArray, List.set_cons_zero, List.set_cons_succ]
      refine wpAnyH_take (i := 8) (v := ?z427) (by simp; rfl) (by kernel_rfl) (by kernel_rfl) (by kernel_rfl) (by exact fun _ _ _ h => h) (Or.inl ⟨by rfl, ?yz427⟩) hHeld ?_
      case yz427 => (intro wx hSw; have hSx := Ex1.mk hSw; go_simp; (try with_reducible rfl))
      try simp only [Act.put, List.setIfInBounds_toArray, List.set_cons_zero, List.set_cons_succ]
      refine wpAnyH_take (i := 10) (v := ?z428) (by simp; rfl) (by kernel_rfl) (by kernel_rfl) (by kernel_rfl) (by exact fun _ _ _ h => h) (Or.inl ⟨by rfl, ?yz428⟩) hHeld ?_
      case yz428 => (intro wx hSw; have hSx := Ex1.mk hSw; go_simp; (try with_reducible rfl))
      try simp only [Act.put, List.setIfInBounds_toArray, List.set_cons_zero, List.set_cons_succ]
      refine wpAnyH_ready (rs := [9]) (by kernel_rfl) (by simp) ?_
      refine AllReadyH.cons (by simp; rfl) (fun K hK => ?_) AllReadyH.nil
      go_simp
      (go_at_call 17; (with_reducible refine Calls.cE (pNormalL (by omega) HN) ?_); intros)
      refine hK.out _ _ inferInstance ?_
      clear hHeld hK K
      intro hHeld
      try simp only [Act.put, List.setIfInBounds_toArray, List.set_cons_zero, List.set_cons_succ]
      refine wpAnyH_ready (rs := [11]) (by kernel_rfl) (by simp) ?_
      refine AllReadyH.cons (by simp; rfl) (fun K hK => ?_) AllReadyH.nil
      go_simp
      (go_at_call 18; (with_reducible refine Calls.cE (refNormalL (by omega) HN) ?_); intros)
      refine hK.out _ _ inferInstance ?_
      clear hHeld hK K
      intro hHeld
      try simp only [Act.put, List.setIfInBounds_toArray, List.set_cons_zero, List.set_cons_succ]
      refine wpAnyH_take (i := 12) (v := ?z429) (by simp; rfl) (by kernel_rfl) (by kernel_rfl) (by kernel_rfl) (by exact fun _ _ _ h => h) (Or.inl ⟨by rfl, ?yz429⟩) hHeld ?_
      case yz429 => (intro wx hSw; have hSx := Ex1.mk hSw; go_simp; (try with_reducible rfl))
      try simp only [Act.put, List.setIfInBounds_toArray, List.set_cons_zero, List.set_cons_succ]
      refine wpAnyH_take (i := 13) (v := ?z430) (by simp; rfl) (by kernel_rfl) (by kernel_rfl) (by kernel_rfl) (by exact fun _ _ _ h => h) (Or.inl ⟨by rfl, ?yz430⟩) hHeld ?_
      case yz430 => (intro wx hSw; have hSx := Ex1.mk hSw; go_simp; (try with_reducible rfl))
      try simp only [Act.put, List.setIfInBounds_toArray, List.set_cons_zero, List.set_cons_succ]
      refine wpAnyH_take (i := 14) (v := ?z431) (by simp; rfl) (by kernel_rfl) (by kernel_rfl) (by kernel_rfl) (by exact fun _ _ _ h => h) (Or.inl ⟨by rfl, ?yz431⟩) hHeld ?_
      case yz431 => (intro wx hSw; have hSx := Ex1.mk hSw; go_simp; (try with_reducible rfl))
      try simp only [Act.put, List.setIfInBounds_toArray, List.set_cons_zero, List.set_cons_succ]
      refine wpAnyH_take (i := 15) (v := ?z432) (by simp; rfl) (by kernel_rfl) (by kernel_rfl) (by kernel_rfl) (by exact fun _ _ _ h => h) (Or.inl ⟨by rfl, ?yz432⟩) hHeld ?_
      case yz432 => (intro wx hSw; have hSx := Ex1.mk hSw; go_simp; (try with_reducible rfl))
      try simp only [Act.put, List.setIfInBounds_toArray, List.set_cons_zero, List.set_cons_succ]
      refine wpAnyH_take (i := 16) (v := ?z433) (by simp; rfl) (by kernel_rfl) (by kernel_rfl) (by kernel_rfl) (by exact fun _ _ _ h => h) (Or.inl ⟨by rfl, ?yz433⟩) hHeld ?_
      case yz433 => (intro wx hSw; have hSx := Ex1.mk hSw; go_simp; (try with_reducible rfl))
      try simp only [Act.put, List.setIfInBounds_toArray, List.set_cons_zero, List.set_cons_succ]
      refine wpAnyH_take (i := 18) (v := ?z434) (by simp; rfl) (by kernel_rfl) (by kernel_rfl) (by kernel_rfl) (by exact fun _ _ _ h => h) (Or.inl ⟨by rfl, ?yz434⟩) hHeld ?_
      case yz434 => (intro wx hSw; have hSx := Ex1.mk hSw; go_simp; (try with_reducible rfl))
      try simp only [Act.put, List.setIfInBounds_toArray, List.set_cons_zero, List.set_cons_succ]
      refine wpAnyH_take (i := 19) (v := ?z435) (by simp; rfl) (by kernel_rfl) (by kernel_rfl) (by kernel_rfl) (by exact fun _ _ _ h => h) (Or.inl ⟨by rfl, ?yz435⟩) hHeld ?_
      case yz435 => (intro wx hSw; have hSx := Ex1.mk hSw; go_simp; (try with_reducible rfl))
      try simp only [Act.put, List.setIfInBounds_toArray, List.set_cons_zero, List.set_cons_succ]
      refine wpAnyH_ready (rs := [17]) (by kernel_rfl) (by simp) ?_
      refine AllReadyH.cons (by simp; rfl) (fun K hK => ?_) AllReadyH.nil
      go_simp
      (go_at_call 19; (with_reducible refine Calls.cE (pSameC (by omega)) ?_); intros)
      refine hK.out _ _ inferInstance ?_
      clear hHeld hK K
      intro hHeld
      try simp only [Act.put, List.setIfInBounds_toArray, List.set_cons_zero, List.set_cons_succ]
      refine wpAnyH_ready (rs := [20]) (by kernel_rfl) (by simp) ?_
      refine AllReadyH.cons (by simp; rfl) (fun K hK => ?_) AllReadyH.nil
      go_simp
      (go_at_call 20; (with_reducible refine Calls.cE (refSameC (by omega)) ?_); intros)
      refine hK.out _ _ inferInstance ?_
      clear hHeld hK K
      intro hHeld
      try simp only [Act.put, List.setIfInBounds_toArray, List.set_cons_zero, List.set_cons_succ]
      refine wpAnyH_take (i := 21) (v := ?z436) (by simp; rfl) (by kernel_rfl) (by kernel_rfl) (by kernel_rfl) (by exact fun _ _ _ h => h) (Or.inl ⟨by rfl, ?yz436⟩) hHeld ?_
      case yz436 => (intro wx hSw; have hSx := Ex1.mk hSw; go_simp; (try with_reducible rfl))
      try simp only [Act.put, List.setIfInBounds_toArray, List.set_cons_zero, List.set_cons_succ]
      refine wpAnyH_take (i := 22) (v := ?z437) (by simp; rfl) (by kernel_rfl) (by kernel_rfl) (by kernel_rfl) (by exact fun _ _ _ h => h) (Or.inl ⟨by rfl, ?yz437⟩) hHeld ?_
      case yz437 => (intro wx hSw; have hSx := Ex1.mk hSw; go_simp; (try with_reducible rfl))
      try simp only [Act.put, List.setIfInBounds_toArray, List.set_cons_zero, List.set_cons_succ]
      refine wpAnyH_take (i := 23) (v := ?z438) (by simp; rfl) (by kernel_rfl) (by kernel_rfl) (by kernel_rfl) (by exact fun _ _ _ h => h) (Or.inl ⟨by rfl, ?yz438⟩) hHeld ?_
      case yz438 => (intro wx hSw; have hSx := Ex1.mk hSw; go_simp; (try with_reducible rfl))
      try simp only [Act.put, List.setIfInBounds_toArray, List.set_cons_zero, List.set_cons_succ]
      refine wpAnyH_take (i := 24) (v := ?z439) (by simp; rfl) (by kernel_rfl) (by kernel_rfl) (by kernel_rfl) (by exact fun _ _ _ h => h) (Or.inl ⟨by rfl, ?yz439⟩) hHeld ?_
      case yz439 => (intro wx hSw; have hSx := Ex1.mk hSw; go_simp; (try with_reducible rfl))
      try simp only [Act.put, List.setIfInBounds_toArray, List.set_cons_zero, List.set_cons_succ]
      refine wpAnyH_take (i := 25) (v := ?z440) (by simp; rfl) (by kernel_rfl) (by kernel_rfl) (by kernel_rfl) (by exact fun _ _ _ h => h) (Or.inl ⟨by rfl, ?yz440⟩) hHeld ?_
      case yz440 => (intro wx hSw; have hSx := Ex1.mk hSw; go_simp; (try with_reducible rfl))
      try simp only [Act.put, List.setIfInBounds_toArray, List.set_cons_zero, List.set_cons_succ]
      refine wpAnyH_take (i := 27) (v := ?z441) (by simp; rfl) (by kernel_rfl) (by kernel_rfl) (by kernel_rfl) (by exact fun _ _ _ h => h) (Or.inl ⟨by rfl, ?yz441⟩) hHeld ?_
      case yz441 => (intro wx hSw; have hSx := Ex1.mk hSw; go_simp; (try with_reducible rfl))
      try simp only [Act.put, List.setIfInBounds_toArray, List.set_cons_zero, List.set_cons_succ]
      refine wpAnyH_take (i := 28) (v := ?z442) (by simp; rfl) (by kernel_rfl) (by kernel_rfl) (by kernel_rfl) (by exact fun _ _ _ h => h) (Or.inl ⟨by rfl, ?yz442⟩) hHeld ?_
      case yz442 => (intro wx hSw; have hSx := Ex1.mk hSw; go_simp; (try with_reducible rfl))
      try simp only [Act.put, List.setIfInBounds_toArray, List.set_cons_zero, List.set_cons_succ]
      refine wpAnyH_ready (rs := [26]) (by kernel_rfl) (by simp) ?_
      refine AllReadyH.cons (by simp; rfl) (fun K hK => ?_) AllReadyH.nil
      go_simp
      (go_at_call 21; (with_reducible refine Calls.cPA (fromIntsC ⟨m2, m3⟩) ?_); intros)
      refine hK.out _ _ inferInstance ?_
      clear hHeld hK K
      intro hHeld
      try simp only [Act.put, List.setIfInBounds_toArray, List.set_cons_zero, List.set_cons_succ]
      refine wpAnyH_ready (rs := [29]) (by kernel_rfl) (by simp) ?_
      refine AllReadyH.cons (by simp; rfl) (fun K hK => ?_) AllReadyH.nil
      go_simp
      (go_at_call 22; (with_reducible refine Calls.cPQ (refXyC ⟨m2, m3⟩) ?_); intros)
      refine hK.out _ _ inferInstance ?_
      clear hHeld hK K
      intro hHeld
      try simp only [Act.put, List.setIfInBounds_toArray, List.set_cons_zero, List.set_cons_succ]
      refine wpAnyH_ready (rs := [30]) (by kernel_rfl) (by simp) ?_
      refine AllReadyH.cons (by simp; rfl) (fun K hK => ?_) AllReadyH.nil
      go_simp
      (go_at_call 15; (with_reducible refine Calls.cE (same04C (by omega) rfl rfl) ?_); intros)
      refine hK.out _ _ inferInstance ?_
      clear hHeld hK K
      intro hHeld
      try simp only [Act.put, List.setIfInBounds_toArray, List.set_cons_zero, List.set_cons_succ]
      refine wpAnyH_take (i := 31) (v := ?z443) (by simp; rfl) (by kernel_rfl) (by kernel_rfl) (by kernel_rfl) (by exact fun _ _ _ h => h) (Or.inl ⟨by rfl, ?yz443⟩) hHeld ?_
      case yz443 => (intro wx hSw; have hSx := Ex1.mk hSw; go_simp; (try with_reducible rfl))
      try simp only [Act.put, List.setIfInBounds_toArray, List.set_cons_zero, List.set_cons_succ]
      refine wpAnyH_take (i := 32) (v := ?z444) (by simp; rfl) (by kernel_rfl) (by kernel_rfl) (by kernel_rfl) (by exact fun _ _ _ h => h) (Or.inl ⟨by rfl, ?yz444⟩) hHeld ?_
      case yz444 => (intro wx hSw; have hSx := Ex1.mk hSw; go_simp; (try with_reducible rfl))
      try simp only [Act.put, List.setIfInBounds_toArray, List.set_cons_zero, List.set_cons_succ]
      refine wpAnyH_done (by kernel_rfl) ?_ _
      clear hHeld
      go_wp2
      go_ret
      exact E.fin rfl
end Go.Proofs.YtlameeijogdckaaGreat
