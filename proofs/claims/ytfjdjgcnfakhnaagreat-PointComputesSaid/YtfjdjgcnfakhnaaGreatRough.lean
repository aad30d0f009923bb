/-
  Points that need not be in normal form, off the tape.
  Printed by a small program (mkrough.py).
-/
import Derived.Test.YtfjdjgcnfakhnaaGreatRef4
import Derived.Test.YtfjdjgcnfakhnaaGreatInv
import Derived.Deep.CutRange
namespace Go.Proofs.YtfjdjgcnfakhnaaGreat
open Go.RowKit

instance CN.six {W : World} {b : Nat} [h : Sz W b] : CN (W.alloc (.cells #[.int .u32 6] 81)) (.slice (some ⟨b, 0, none⟩) 1 1) 6 1 := ⟨by
  rw [← h.out]
  exact .lit (rd_lit rfl [6] (dig1 (by omega)) (by simp) #[.int .u32 6] rfl 1 rfl) (nf_one (by omega) (by omega)) (by simp)⟩
theorem natsC {w : World} {a1 : Option Addr} {l1 c1 m k1 : Nat} {k : Int} [h1 : CN w (.slice a1 l1 c1) m k1] (b : k1 ≤ 900000 ∧ 0 ≤ k ∧ k ≤ 1000000) : Calls Tryz.prog 50 #[.slice a1 l1 c1, .int .i64 k] w (RetR w m (k1 + 2)) :=
  natsW h1.out b.1 b.2.1 b.2.2
/-- A point, perhaps not in normal form, is read off the tape. -/
def TRRet (w : World) (t : Nat) (k : Nat) (e : Ending) (w' : World) : Prop := ∃ (g : Bool) (a : Option Addr) (l c : Nat) (aa : Option Addr) (ll cc : Nat) (g2 : Bool) (a2 : Option Addr) (l2 c2 : Nat) (aa2 : Option Addr) (ll2 cc2 : Nat) (x y : Rat), e = .returned (.agg #[.bool g, .slice a l c, .slice aa ll cc, .bool g2, .slice a2 l2 c2, .slice aa2 ll2 cc2]) ∧ CW w' (.agg #[.bool g, .slice a l c, .slice aa ll cc]) x k ∧ CW w' (.agg #[.bool g2, .slice a2 l2 c2, .slice aa2 ll2 cc2]) y k ∧ Ct w' t ∧ Gb w w' t
theorem Calls.cTR {P : Program} {f : FuncId} {args : Array Value} {w : World} {t k : Nat} {K : Ending → World → Prop} [ht : Ct w t] (h : Calls P f args w (TRRet w t k))
    (hK : ∀ w' [Tp1 w w' t] [Ct w' t] (g : Bool) (a : Option Addr) (l c : Nat) (aa : Option Addr) (ll cc : Nat) (g2 : Bool) (a2 : Option Addr) (l2 c2 : Nat) (aa2 : Option Addr) (ll2 cc2 : Nat) (x y : Rat) [CW w' (.agg #[.bool g, .slice a l c, .slice aa ll cc]) x k] [CW w' (.agg #[.bool g2, .slice a2 l2 c2, .slice aa2 ll2 cc2]) y k], K (.returned (.agg #[.bool g, .slice a l c, .slice aa ll cc, .bool g2, .slice a2 l2 c2, .slice aa2 ll2 cc2])) w') : Calls P f args w K := by
  refine h.mono ?_
  rintro e w' ⟨g, a, l, c, aa, ll, cc, g2, a2, l2, c2, aa2, ll2, cc2, x, y, rfl, hx, hy, hc, hb⟩
  exact @hK w' ⟨hb.out, ht.out⟩ hc g a l c aa ll cc g2 a2 l2 c2 aa2 ll2 cc2 x y hx hy
set_option maxRecDepth 100000 in
set_option maxHeartbeats 40000000 in
set_option synthInstance.maxSize 100000 in
set_option synthInstance.maxHeartbeats 1000000 in
theorem roughC {w : World} {t : Nat} [ht : Ct w t] : Calls Tryz.prog 8 #[.pointer (some ⟨t, 0, none⟩)] w (TRRet w t 12) := by
  go_enter Tryz.func8, Tryz.ntmps8
  go_wp2_with fail
  with_reducible refine Calls.cTP tapePointC ?_
  intro W1 _ _ G A L C AA LL CC G2 A2 L2 C2 AA2 LL2 CC2 x y _ _
  go_wp2_with fail
  with_reducible refine Calls.cPA (toPC (by omega)) ?_
  intro W2 _ g a l c aa ll cc g2 a2 l2 c2 aa2 ll2 cc2 ix iy
  have jx := ix.num
  have jd := ix.den
  have jn : CN W2 (.slice a l c) x.num.natAbs 5 := ⟨(zz_of jx).2⟩
  go_wp2_with fail
  with_reducible refine Calls.cNext (nextC (by omega)) ?_
  intro W3 _ _ v hv0 hv1
  by_cases hv : v = 0
  · subst hv
    go_upto_region 3 with fail
    go_cut [] from 10 to 29 (fun wx => ∃ (m n : Nat) (a' : Option Addr) (l' c' : Nat) (aa' : Option Addr) (ll' cc' : Nat), Bx wx W2.heap.size 32 [.bool g, .slice a' l' c', .slice aa' ll' cc', .bool g2, .slice a2 l2 c2, .slice aa2 ll2 cc2] ∧
      Bx wx w.heap.size 32 [.bool false, .slice none 0 0, .slice none 0 0, .bool false, .slice none 0 0, .slice none 0 0] ∧ CR wx (.slice a' l' c') m 10 ∧ CR wx (.slice aa' ll' cc') n 10 ∧ CA wx (.agg #[.bool g2, .slice a2 l2 c2, .slice aa2 ll2 cc2]) y 5 ∧ Ct wx t ∧ Gb w wx t)
    case first =>
      refine region_t (by kernel_rfl) [] (List.contains [17, 18, 19, 20, 21]) (fun hHeld => ?_)
      refine wpAnyT_take (i := 0) (v := ?z172) (by simp; rfl) (by kernel_rfl) (by kernel_rfl) (by kernel_rfl) (by exact fun _ _ _ h => h) (T_waits (by kernel_rfl)) (Or.inl ⟨by rfl, ?yz172⟩) hHeld ?_
      case yz172 => (intro wx hSw; have hSx := Ex1.mk hSw; go_simp; (try with_reducible rfl))
      try simp only [Act.put, List.setIfInBounds_toArray, List.set_cons_zero, List.set_cons_succ]
      refine wpAnyT_take (i := 1) (v := ?z173) (by simp; rfl) (by kernel_rfl) (by kernel_rfl) (by kernel_rfl) (by exact fun _ _ _ h => h) (T_waits (by kernel_rfl)) (Or.inl ⟨by rfl, ?yz173⟩) hHeld ?_
      case yz173 => (intro wx hSw; have hSx := Ex1.mk hSw; go_simp; (try with_reducible rfl))
      try simp only [Act.put, List.setIfInBounds_toArray, List.set_cons_zero, List.set_cons_succ]
      refine wpAnyT_take (i := 2) (v := ?z174) (by simp; rfl) (by kernel_rfl) (by kernel_rfl) (by kernel_rfl) (by exact fun _ _ _ h => h) (T_waits (by kernel_rfl)) (Or.inl ⟨by rfl, ?yz174⟩) hHeld ?_
      case yz174 => (intro wx hSw; have hSx := Ex1.mk hSw; go_simp; (try with_reducible rfl))
      try simp only [Act.put, List.setIfInBounds_toArray, List.set_cons_zero, List.set_cons_succ]
      refine wpAnyT_take (i := 7) (v := ?z175) (by simp; rfl) (by kernel_rfl) (by kernel_rfl) (by kernel_rfl) (by exact fun _ _ _ h => h) (T_waits (by kernel_rfl)) (Or.inl ⟨by rfl, ?yz175⟩) hHeld ?_
      case yz175 => (intro wx hSw; have hSx := Ex1.mk hSw; go_simp; (try with_reducible rfl))
      try simp only [Act.put, List.setIfInBounds_toArray, List.set_cons_zero, List.set_cons_succ]
      refine wpAnyT_take (i := 8) (v := ?z176) (by simp; rfl) (by kernel_rfl) (by kernel_rfl) (by kernel_rfl) (by exact fun _ _ _ h => h) (T_waits (by kernel_rfl)) (Or.inl ⟨by rfl, ?yz176⟩) hHeld ?_
      case yz176 => (intro wx hSw; have hSx := Ex1.mk hSw; go_simp; (try with_reducible rfl))
      try simp only [Act.put, List.setIfInBounds_toArray, List.set_cons_zero, List.set_cons_succ]
      refine wpAnyT_take (i := 9) (v := ?z177) (by simp; rfl) (by kernel_rfl) (by kernel_rfl) (by kernel_rfl) (by exact fun _ _ _ h => h) (T_waits (by kernel_rfl)) (Or.inl ⟨by rfl, ?yz177⟩) hHeld ?_
      case yz177 => (intro wx hSw; have hSx := Ex1.mk hSw; go_simp; (try with_reducible rfl))
      try simp only [Act.put, List.setIfInBounds_toArray, List.set_cons_zero, List.set_cons_succ]
      refine wpAnyT_take (i := 10) (v := ?z178) (by simp; rfl) (by kernel_rfl) (by kernel_rfl) (by kernel_rfl) (by exact fun _ _ _ h => h) (T_waits (by kernel_rfl)) (Or.inl ⟨by rfl, ?yz178⟩) hHeld ?_
      case yz178 => (intro wx hSw; have hSx := Ex1.mk hSw; go_simp; (try with_reducible rfl))
      try simp only [Act.put, List.setIfInBounds_toArray, List.set_cons_zero, List.set_cons_succ]
      refine wpAnyT_inv [(3, 13), (4, 14), (5, 15), (6, 16), (11, 21), (12, 22), (13, 23), (14, 24), (15, 25), (16, 26)] (fun i => match i with | 3 => [] | 4 => [] | 5 => [3, 4] | 6 => [5] | 11 => [6] | 12 => [] | 13 => [11, 12] | 14 => [13] | 15 => [3, 4, 5, 6] | 16 => [3, 4, 5, 6, 15] | _ => []) [phiN x.den 5, phiN 6 1, phiN (x.den * 6) 6, phiR (x.den * 6) 8, phiN x.num.natAbs 5, phiN 6 1, phiN (x.num.natAbs * 6) 6, phiR (x.num.natAbs * 6) 8, phiV (.pointer (some ⟨W2.heap.size, 0, none⟩)), phiV (.pointer (some ⟨W2.heap.size, 2, none⟩))] [] 5 (by rfl) (by decide +kernel) (by decide) (by decide) (by kernel_rfl) ?_ (fun _ _ => Ex.below) hHeld ?_ ?_
      · exact fun i hi => nomatch hi
      · intro i hi f W hSw hbw hp
        have kw := Kp1.mk hbw
        have hSx := Ex1.mk hSw
        clear hHeld
        simp only [List.map_cons, List.map_nil, List.mem_cons, List.not_mem_nil, or_false] at hi
        rcases hi with rfl | rfl | rfl | rfl | rfl | rfl | rfl | rfl | rfl | rfl
        · refine ⟨_, by simp; rfl, fun K' hK => ?_⟩
          clear hp
          simp only [putAll, Act.put, List.setIfInBounds_toArray, List.set_cons_zero, List.set_cons_succ] at hK ⊢
          generalize f 3 = v3 at *
          generalize f 4 = v4 at *
          generalize f 5 = v5 at *
          generalize f 6 = v6 at *
          generalize f 11 = v11 at *
          generalize f 12 = v12 at *
          generalize f 13 = v13 at *
          generalize f 14 = v14 at *
          generalize f 15 = v15 at *
          generalize f 16 = v16 at *
          go_simp
          (go_at_call 52; (with_reducible refine Calls.cN (refNC (by omega)) ?_); intros)
          refine hK.out _ _ _ rfl ?_ ?_ ?_
          · exact (inferInstance : Kp W _).out
          · show phiN x.den 5 _ _
            exact phiN.fin rfl (by first | omega | decide)
          · exact fun h => absurd h (by decide)
        · refine ⟨_, by simp; rfl, fun K' hK => ?_⟩
          clear hp
          simp only [putAll, Act.put, List.setIfInBounds_toArray, List.set_cons_zero, List.set_cons_succ] at hK ⊢
          generalize f 3 = v3 at *
          generalize f 4 = v4 at *
          generalize f 5 = v5 at *
          generalize f 6 = v6 at *
          generalize f 11 = v11 at *
          generalize f 12 = v12 at *
          generalize f 13 = v13 at *
          generalize f 14 = v14 at *
          generalize f 15 = v15 at *
          generalize f 16 = v16 at *
          go_simp
          refine hK.out _ _ _ rfl ?_ ?_ ?_
          · exact (inferInstance : Kp W _).out
          · show phiN 6 1 _ _
            exact phiN.fin rfl (by first | omega | decide)
          · exact fun h => absurd h (by decide)
        · have h3 : phiN x.den 5 (f 3) W := hp 3 (by decide)
          have h4 : phiN 6 1 (f 4) W := hp 4 (by decide)
          refine ⟨_, by simp; rfl, fun K' hK => ?_⟩
          clear hp
          simp only [putAll, Act.put, List.setIfInBounds_toArray, List.set_cons_zero, List.set_cons_succ] at hK ⊢
          generalize f 3 = v3 at *
          generalize f 4 = v4 at *
          generalize f 5 = v5 at *
          generalize f 6 = v6 at *
          generalize f 11 = v11 at *
          generalize f 12 = v12 at *
          generalize f 13 = v13 at *
          generalize f 14 = v14 at *
          generalize f 15 = v15 at *
          generalize f 16 = v16 at *
          obtain ⟨a3, l3, c3, rfl, i3⟩ := h3
          obtain ⟨a4, l4, c4, rfl, i4⟩ := h4
          go_simp
          (go_at_call 51; (with_reducible refine Calls.cN (numProductC (by omega)) ?_); intros)
          refine hK.out _ _ _ rfl ?_ ?_ ?_
          · exact (inferInstance : Kp W _).out
          · show phiN (x.den * 6) 6 _ _
            exact phiN.fin rfl (by first | omega | decide)
          · exact fun h => absurd h (by decide)
        · have h5 : phiN (x.den * 6) 6 (f 5) W := hp 5 (by decide)
          refine ⟨_, by simp; rfl, fun K' hK => ?_⟩
          clear hp
          simp only [putAll, Act.put, List.setIfInBounds_toArray, List.set_cons_zero, List.set_cons_succ] at hK ⊢
          generalize f 3 = v3 at *
          generalize f 4 = v4 at *
          generalize f 5 = v5 at *
          generalize f 6 = v6 at *
          generalize f 11 = v11 at *
          generalize f 12 = v12 at *
          generalize f 13 = v13 at *
          generalize f 14 = v14 at *
          generalize f 15 = v15 at *
          generalize f 16 = v16 at *
          obtain ⟨a5, l5, c5, rfl, i5⟩ := h5
          go_simp
          (go_at_call 50; (with_reducible refine Calls.cR (natsC (by omega)) ?_); intros)
          refine hK.out _ _ _ rfl ?_ ?_ ?_
          · exact (inferInstance : Kp W _).out
          · show phiR (x.den * 6) 8 _ _
            exact phiR.fin rfl (by first | omega | decide)
          · exact fun h => absurd h (by decide)
        · have h6 : phiR (x.den * 6) 8 (f 6) W := hp 6 (by decide)
          refine ⟨_, by simp; rfl, fun K' hK => ?_⟩
          clear hp
          simp only [putAll, Act.put, List.setIfInBounds_toArray, List.set_cons_zero, List.set_cons_succ] at hK ⊢
          generalize f 3 = v3 at *
          generalize f 4 = v4 at *
          generalize f 5 = v5 at *
          generalize f 6 = v6 at *
          generalize f 11 = v11 at *
          generalize f 12 = v12 at *
          generalize f 13 = v13 at *
          generalize f 14 = v14 at *
          generalize f 15 = v15 at *
          generalize f 16 = v16 at *
          obtain ⟨a6, l6, c6, rfl, i6⟩ := h6
          go_simp
          (go_at_call 52; (with_reducible refine Calls.cN (refNC (by omega)) ?_); intros)
          refine hK.out _ _ _ rfl ?_ ?_ ?_
          · exact (inferInstance : Kp W _).out
          · show phiN x.num.natAbs 5 _ _
            exact phiN.fin rfl (by first | omega | decide)
          · exact fun h => absurd h (by decide)
        · refine ⟨_, by simp; rfl, fun K' hK => ?_⟩
          clear hp
          simp only [putAll, Act.put, List.setIfInBounds_toArray, List.set_cons_zero, List.set_cons_succ] at hK ⊢
          generalize f 3 = v3 at *
          generalize f 4 = v4 at *
          generalize f 5 = v5 at *
          generalize f 6 = v6 at *
          generalize f 11 = v11 at *
          generalize f 12 = v12 at *
          generalize f 13 = v13 at *
          generalize f 14 = v14 at *
          generalize f 15 = v15 at *
          generalize f 16 = v16 at *
          go_simp
          refine hK.out _ _ _ rfl ?_ ?_ ?_
          · exact (inferInstance : Kp W _).out
          · show phiN 6 1 _ _
            exact phiN.fin rfl (by first | omega | decide)
          · exact fun h => absurd h (by decide)
        · have h11 : phiN x.num.natAbs 5 (f 11) W := hp 11 (by decide)
          have h12 : phiN 6 1 (f 12) W := hp 12 (by decide)
          refine ⟨_, by simp; rfl, fun K' hK => ?_⟩
          clear hp
          simp only [putAll, Act.put, List.setIfInBounds_toArray, List.set_cons_zero, List.set_cons_succ] at hK ⊢
          generalize f 3 = v3 at *
          generalize f 4 = v4 at *
          generalize f 5 = v5 at *
          generalize f 6 = v6 at *
          generalize f 11 = v11 at *
          generalize f 12 = v12 at *
          generalize f 13 = v13 at *
          generalize f 14 = v14 at *
          generalize f 15 = v15 at *
          generalize f 16 = v16 at *
          obtain ⟨a11, l11, c11, rfl, i11⟩ := h11
          obtain ⟨a12, l12, c12, rfl, i12⟩ := h12
          go_simp
          (go_at_call 51; (with_reducible refine Calls.cN (numProductC (by omega)) ?_); intros)
          refine hK.out _ _ _ rfl ?_ ?_ ?_
          · exact (inferInstance : Kp W _).out
          · show phiN (x.num.natAbs * 6) 6 _ _
            exact phiN.fin rfl (by first | omega | decide)
          · exact fun h => absurd h (by decide)
        · have h13 : phiN (x.num.natAbs * 6) 6 (f 13) W := hp 13 (by decide)
          refine ⟨_, by simp; rfl, fun K' hK => ?_⟩
          clear hp
          simp only [putAll, Act.put, List.setIfInBounds_toArray, List.set_cons_zero, List.set_cons_succ] at hK ⊢
          generalize f 3 = v3 at *
          generalize f 4 = v4 at *
          generalize f 5 = v5 at *
          generalize f 6 = v6 at *
          generalize f 11 = v11 at *
          generalize f 12 = v12 at *
          generalize f 13 = v13 at *
          generalize f 14 = v14 at *
          generalize f 15 = v15 at *
          generalize f 16 = v16 at *
          obtain ⟨a13, l13, c13, rfl, i13⟩ := h13
          go_simp
          (go_at_call 50; (with_reducible refine Calls.cR (natsC (by omega)) ?_); intros)
          refine hK.out _ _ _ rfl ?_ ?_ ?_
          · exact (inferInstance : Kp W _).out
          · show phiR (x.num.natAbs * 6) 8 _ _
            exact phiR.fin rfl (by first | omega | decide)
          · exact fun h => absurd h (by decide)
        · have h3 : phiN x.den 5 (f 3) W := hp 3 (by decide)
          have h4 : phiN 6 1 (f 4) W := hp 4 (by decide)
          have h5 : phiN (x.den * 6) 6 (f 5) W := hp 5 (by decide)
          have h6 : phiR (x.den * 6) 8 (f 6) W := hp 6 (by decide)
          refine ⟨_, by simp; rfl, fun K' hK => ?_⟩
          clear hp
          simp only [putAll, Act.put, List.setIfInBounds_toArray, List.set_cons_zero, List.set_cons_succ] at hK ⊢
          generalize f 3 = v3 at *
          generalize f 4 = v4 at *
          generalize f 5 = v5 at *
          generalize f 6 = v6 at *
          generalize f 11 = v11 at *
          generalize f 12 = v12 at *
          generalize f 13 = v13 at *
          generalize f 14 = v14 at *
          generalize f 15 = v15 at *
          generalize f 16 = v16 at *
          obtain ⟨a3, l3, c3, rfl, i3⟩ := h3
          obtain ⟨a4, l4, c4, rfl, i4⟩ := h4
          obtain ⟨a5, l5, c5, rfl, i5⟩ := h5
          obtain ⟨a6, l6, c6, rfl, i6⟩ := h6
          go_simp
          refine hK.out _ _ _ rfl ?_ ?_ ?_
          · exact (inferInstance : Kp W _).out
          · exact rfl
          · exact fun h => absurd h (by decide)
        · have h3 : phiN x.den 5 (f 3) W := hp 3 (by decide)
          have h4 : phiN 6 1 (f 4) W := hp 4 (by decide)
          have h5 : phiN (x.den * 6) 6 (f 5) W := hp 5 (by decide)
          have h6 : phiR (x.den * 6) 8 (f 6) W := hp 6 (by decide)
          have h15 : phiV (.pointer (some ⟨W2.heap.size, 0, none⟩)) (f 15) W := hp 15 (by decide)
          refine ⟨_, by simp; rfl, fun K' hK => ?_⟩
          clear hp
          simp only [putAll, Act.put, List.setIfInBounds_toArray, List.set_cons_zero, List.set_cons_succ] at hK ⊢
          generalize f 3 = v3 at *
          generalize f 4 = v4 at *
          generalize f 5 = v5 at *
          generalize f 6 = v6 at *
          generalize f 11 = v11 at *
          generalize f 12 = v12 at *
          generalize f 13 = v13 at *
          generalize f 14 = v14 at *
          generalize f 15 = v15 at *
          generalize f 16 = v16 at *
          obtain ⟨a3, l3, c3, rfl, i3⟩ := h3
          obtain ⟨a4, l4, c4, rfl, i4⟩ := h4
          obtain ⟨a5, l5, c5, rfl, i5⟩ := h5
          obtain ⟨a6, l6, c6, rfl, i6⟩ := h6
          obtain rfl := h15
          go_simp
          refine hK.out _ _ _ rfl ?_ ?_ ?_
          · exact (inferInstance : Kp W _).out
          · exact rfl
          · exact fun h => absurd h (by decide)
      · intro f W hSw hbw hf hne
        have kw := Kp1.mk hbw
        have hSx := Ex1.mk hSw
        clear hHeld
        have h3 : phiN x.den 5 (f 3) W := hf 3 (by decide)
        have h4 : phiN 6 1 (f 4) W := hf 4 (by decide)
        have h5 : phiN (x.den * 6) 6 (f 5) W := hf 5 (by decide)
        have h6 : phiR (x.den * 6) 8 (f 6) W := hf 6 (by decide)
        have h11 : phiN x.num.natAbs 5 (f 11) W := hf 11 (by decide)
        have h12 : phiN 6 1 (f 12) W := hf 12 (by decide)
        have h13 : phiN (x.num.natAbs * 6) 6 (f 13) W := hf 13 (by decide)
        have h14 : phiR (x.num.natAbs * 6) 8 (f 14) W := hf 14 (by decide)
        have h15 : phiV (.pointer (some ⟨W2.heap.size, 0, none⟩)) (f 15) W := hf 15 (by decide)
        have h16 : phiV (.pointer (some ⟨W2.heap.size, 2, none⟩)) (f 16) W := hf 16 (by decide)
        clear hf hne
        simp only [putAll, lset, List.map_cons, List.map_nil, Act.put, List.setIfInBounds_toArray, List.set_cons_zero, List.set_cons_succ]
        generalize f 3 = v3 at *
        generalize f 4 = v4 at *
        generalize f 5 = v5 at *
        generalize f 6 = v6 at *
        generalize f 11 = v11 at *
        generalize f 12 = v12 at *
        generalize f 13 = v13 at *
        generalize f 14 = v14 at *
        generalize f 15 = v15 at *
        generalize f 16 = v16 at *
        obtain ⟨a3, l3, c3, rfl, i3⟩ := h3
        obtain ⟨a4, l4, c4, rfl, i4⟩ := h4
        obtain ⟨a5, l5, c5, rfl, i5⟩ := h5
        obtain ⟨a6, l6, c6, rfl, i6⟩ := h6
        obtain ⟨a11, l11, c11, rfl, i11⟩ := h11
        obtain ⟨a12, l12, c12, rfl, i12⟩ := h12
        obtain ⟨a13, l13, c13, rfl, i13⟩ := h13
        obtain ⟨a14, l14, c14, rfl, i14⟩ := h14
        obtain rfl := h15
        obtain rfl := h16
        have hHeld := hSw
        refine wpAnyT_ready (rs := [17]) (by kernel_rfl) (by simp) ?_
        refine AllT.cons (by simp; rfl) (fun K hK => ?_) AllT.nil
        go_simp
        refine hK.out _ _ (fun h => absurd h (by decide)) ?_
        clear hHeld hK K
        intro hHeld
        try simp only [Act.put, List.setIfInBounds_toArray, List.set_cons_zero, List.set_cons_succ]
        refine wpAnyT_take0 (i := 18) (v := ?z179) (by simp; rfl) (by kernel_rfl) (by kernel_rfl) (by kernel_rfl) (by exact fun _ _ _ h => h) (by rfl) (Or.inl ⟨by rfl, ?yz179⟩) ?_
        case yz179 => (intro wx _; go_simp; (try with_reducible rfl))
        try simp only [Act.put, List.setIfInBounds_toArray, List.set_cons_zero, List.set_cons_succ]
        refine wpAnyT_take0 (i := 19) (v := ?z180) (by simp; rfl) (by kernel_rfl) (by kernel_rfl) (by kernel_rfl) (by exact fun _ _ _ h => h) (by rfl) (Or.inl ⟨by rfl, ?yz180⟩) ?_
        case yz180 => (intro wx _; go_simp; (try with_reducible rfl))
        try simp only [Act.put, List.setIfInBounds_toArray, List.set_cons_zero, List.set_cons_succ]
        refine wpAnyT_take0 (i := 20) (v := ?z181) (by simp; rfl) (by kernel_rfl) (by kernel_rfl) (by kernel_rfl) (by exact fun _ _ _ h => h) (by rfl) (Or.inl ⟨by rfl, ?yz181⟩) ?_
        case yz181 => (intro wx _; go_simp; (try with_reducible rfl))
        try simp only [Act.put, List.setIfInBounds_toArray, List.set_cons_zero, List.set_cons_succ]
        refine wpAnyT_ready (rs := [21]) (by kernel_rfl) (by simp) ?_
        refine AllT.cons (by simp; rfl) (fun K hK => ?_) AllT.nil
        go_simp
        refine hK.out _ _ (fun h => absurd h (by decide)) ?_
        clear hHeld hK K
        intro hHeld
        try simp only [Act.put, List.setIfInBounds_toArray, List.set_cons_zero, List.set_cons_succ]
        refine wpAnyT_done (by kernel_rfl) ?_ _
        clear hHeld
        go_wp2_with fail
        go_meet
        exact ⟨_, _, _, _, _, _, _, _, inferInstance, inferInstance, CR.cast inferInstance rfl (by omega), CR.cast inferInstance rfl (by omega), inferInstance, inferInstance, inferInstance⟩
    case rest =>
      obtain ⟨m, n, a', l', c', aa', ll', cc', i1, i2, i3, i4, i5, i6, i7⟩ := hcut
      go_wp2_with (first
    | (go_at_call 38; (with_reducible refine Calls.cNext (nextC (by omega)) ?_); intros))
      all_goals
        refine ret_bx rfl Tryz.underlying32 rfl (by kernel_rfl) rfl rfl rfl ?_
        exact ⟨_, _, _, _, _, _, _, _, _, _, _, _, _, _, _, _, rfl, CW.cast inferInstance rfl (by omega), CW.cast inferInstance rfl (by omega), inferInstance, inferInstance⟩
  · have hv2 : (v == 0) = false := by rw [beq_eq_false_iff_ne]; exact hv
    clear hv
    go_wp2_with (first
    | (go_at_call 38; (with_reducible refine Calls.cNext (nextC (by omega)) ?_); intros))
    all_goals
      refine ret_bx rfl Tryz.underlying32 rfl (by kernel_rfl) rfl rfl rfl ?_
      exact ⟨_, _, _, _, _, _, _, _, _, _, _, _, _, _, _, _, rfl, CW.cast inferInstance rfl (by omega), CW.cast inferInstance rfl (by omega), inferInstance, inferInstance⟩

def phiPQ (x y : Rat) (k : Nat) (v : Value) (W : World) : Prop := ∃ g a l c aa ll cc g2 a2 l2 c2 aa2 ll2 cc2, v = .agg #[.bool g, .slice a l c, .slice aa ll cc, .bool g2, .slice a2 l2 c2, .slice aa2 ll2 cc2] ∧ CQ W (.agg #[.bool g, .slice a l c, .slice aa ll cc]) x k ∧ CQ W (.agg #[.bool g2, .slice a2 l2 c2, .slice aa2 ll2 cc2]) y k
instance {x y : Rat} {k : Nat} : Last (phiPQ x y k) := ⟨fun _ _ _ hb ⟨g, a, l, c, aa, ll, cc, g2, a2, l2, c2, aa2, ll2, cc2, e, _, _⟩ => have := Kp1.mk hb; ⟨g, a, l, c, aa, ll, cc, g2, a2, l2, c2, aa2, ll2, cc2, e, inferInstance, inferInstance⟩⟩
theorem phiPQ.fin {x y : Rat} {k k1 k2 : Nat} {g g2 : Bool} {a aa a2 aa2 : Option Addr} {l c ll cc l2 c2 ll2 cc2 : Nat} {W : World} [h1 : CQ W (.agg #[.bool g, .slice a l c, .slice aa ll cc]) x k1] [h2 : CQ W (.agg #[.bool g2, .slice a2 l2 c2, .slice aa2 ll2 cc2]) y k2] (b1 : k1 ≤ k) (b2 : k2 ≤ k) :
    phiPQ x y k (.agg #[.bool g, .slice a l c, .slice aa ll cc, .bool g2, .slice a2 l2 c2, .slice aa2 ll2 cc2]) W := ⟨_, _, _, _, _, _, _, _, _, _, _, _, _, _, rfl, h1.cast rfl b1, h2.cast rfl b2⟩
end Go.Proofs.YtfjdjgcnfakhnaaGreat
