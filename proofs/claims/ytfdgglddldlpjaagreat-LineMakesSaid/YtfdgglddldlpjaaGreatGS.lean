/-
  Texts of this claim, joined: Ln6, Ln7.
-/
import Derived.Test.YtfdgglddldlpjaaGreatGR
/- The reference's line through two points; lines off the tape. printed by a small program (mkln6.py). -/
namespace Go.Proofs.YtfdgglddldlpjaaGreat
open Go.RowKit
set_option maxRecDepth 100000
set_option maxHeartbeats 40000000
set_option synthInstance.maxSize 100000
set_option synthInstance.maxHeartbeats 1000000
set_option linter.unusedVariables false

theorem Calls.cQz {P : Program} {f : FuncId} {args : Array Value} {w : World} {x : Rat} {k : Nat} {K : Ending → World → Prop} (h : Calls P f args w (CQRet w x k))
    (hK : ∀ w' [Kp1 w w'] (g : Bool) (a : Option Addr) (l c : Nat) (aa : Option Addr) (ll cc : Nat) [CQ w' (.agg #[.bool g, .slice a l c, .slice aa ll cc]) x k] [CZ w' (.agg #[.bool g, .slice a l c]) x.num k], K (.returned (.agg #[.bool g, .slice a l c, .slice aa ll cc])) w') : Calls P f args w K := by
  refine h.mono ?_
  rintro e w' ⟨g, a, l, c, aa, ll, cc, rfl, hx, hb⟩
  exact @hK w' ⟨hb⟩ g a l c aa ll cc hx hx.num
theorem thr_ne {x y u v : Rat} (h : ¬ (u = 0 ∧ v = 0)) : Hid (¬ (thA y (y + ((1 : Int) : Rat) * v) = 0 ∧ x + ((1 : Int) : Rat) * u - x = 0)) := by
  rintro ⟨h1, h2⟩
  refine h ⟨?_, ?_⟩
  · rw [show ((1 : Int) : Rat) = 1 from rfl] at h2; grind
  · unfold thA at h1; rw [show ((1 : Int) : Rat) = 1 from rfl] at h1; grind
theorem CZ.tight {W : World} {v : Value} {z : Int} {k m : Nat} (h : CZ W v z k) (b : (nf z.natAbs).length ≤ m) : CZ W v z m := by
  obtain ⟨g, a, l, c, e, h1, h2⟩ := h.out
  exact ⟨g, a, l, c, e, h1, h2.1, b⟩
theorem div_len {a : Int} {g : Nat} (hd : ((g : Nat) : Int) ∣ a) (ha : a.natAbs < 4294967296) : (nf (a / ((g : Nat) : Int)).natAbs).length ≤ 1 := by
  refine nf_len_le (k := 1) ?_
  obtain ⟨k, rfl⟩ := hd
  by_cases h0 : (g : Int) = 0
  · rw [h0]; simp
  · rw [Int.mul_ediv_cancel_left _ h0]
    rw [Int.natAbs_mul] at ha
    have h1 : 1 ≤ g := by omega
    have h2 : 1 * k.natAbs ≤ g * k.natAbs := Nat.mul_le_mul_right _ h1
    simp only [Int.natAbs_natCast] at ha
    simp only [Nat.pow_one]
    omega
theorem mul16 {a b : Int} (ha : -4 ≤ a ∧ a ≤ 4) (hb : -4 ≤ b ∧ b ≤ 4) : (a * b).natAbs ≤ 16 := by
  rw [Int.natAbs_mul]
  have h1 : a.natAbs ≤ 4 := by omega
  have h2 : b.natAbs ≤ 4 := by omega
  exact Nat.le_trans (Nat.mul_le_mul h1 h2) (by decide)
theorem thr_a (y v : Int) : thA (y : Rat) ((y : Rat) + ((1 : Int) : Rat) * (v : Rat)) = ((-v : Int) : Rat) := by
  unfold thA; rw [Rat.intCast_neg, show ((1 : Int) : Rat) = 1 from rfl]; grind
theorem thr_b (x u : Int) : (x : Rat) + ((1 : Int) : Rat) * (u : Rat) - (x : Rat) = ((u : Int) : Rat) := by
  rw [show ((1 : Int) : Rat) = 1 from rfl]; grind
theorem thr_c (x y u v : Int) : thC (x : Rat) (y : Rat) ((x : Rat) + ((1 : Int) : Rat) * (u : Rat)) ((y : Rat) + ((1 : Int) : Rat) * (v : Rat)) = ((v * x - u * y : Int) : Rat) := by
  unfold thC; rw [Rat.intCast_sub, Rat.intCast_mul, Rat.intCast_mul, show ((1 : Int) : Rat) = 1 from rfl]; grind
theorem tape_ne {x y u v : Int} (hq : Hid (-4 ≤ u ∧ u ≤ 4 ∧ -4 ≤ v ∧ v ≤ 4 ∧ ¬ (u = 0 ∧ v = 0))) : Hid (¬ (thA (y : Rat) ((y : Rat) + ((1 : Int) : Rat) * (v : Rat)) = 0 ∧ (x : Rat) + ((1 : Int) : Rat) * (u : Rat) - (x : Rat) = 0)) :=
  thr_ne (fun h => hq.out.2.2.2.2 ⟨by exact_mod_cast h.1, by exact_mod_cast h.2⟩)
theorem tape_len {x y u v : Int} (hp : Hid (-4 ≤ x ∧ x ≤ 4 ∧ -4 ≤ y ∧ y ≤ 4)) (hq : Hid (-4 ≤ u ∧ u ≤ 4 ∧ -4 ≤ v ∧ v ≤ 4 ∧ ¬ (u = 0 ∧ v = 0))) :
    let A := thA (y : Rat) ((y : Rat) + ((1 : Int) : Rat) * (v : Rat)); let B := (x : Rat) + ((1 : Int) : Rat) * (u : Rat) - (x : Rat); let C := thC (x : Rat) (y : Rat) ((x : Rat) + ((1 : Int) : Rat) * (u : Rat)) ((y : Rat) + ((1 : Int) : Rat) * (v : Rat))
    (nf (lnK A A B C).num.natAbs).length ≤ 1 ∧ (nf (lnK B A B C).num.natAbs).length ≤ 1 ∧ (nf (lnK C A B C).num.natAbs).length ≤ 1 := by
  intro A B C
  obtain ⟨q1, q2, q3, q4, q5⟩ := hq.out
  obtain ⟨p1, p2, p3, p4⟩ := hp.out
  have hne : ¬ ((-v : Int) = 0 ∧ (u : Int) = 0) := fun h => q5 ⟨h.2, by omega⟩
  have hd := gcd3_dvd (-v) u (v * x - u * y)
  have m1 := mul16 (a := v) (b := x) ⟨q3, q4⟩ ⟨p1, p2⟩
  have m2 := mul16 (a := u) (b := y) ⟨q1, q2⟩ ⟨p3, p4⟩
  have eA : A = ((-v : Int) : Rat) := thr_a y v
  have eB : B = ((u : Int) : Rat) := thr_b x u
  have eC : C = ((v * x - u * y : Int) : Rat) := thr_c x y u v
  rw [eA, eB, eC, lnK_int hne hd.1, lnK_int hne hd.2.1, lnK_int hne hd.2.2]
  exact ⟨div_len hd.1 (by omega), div_len hd.2.1 (by omega), div_len hd.2.2 (by omega)⟩
theorem refThroughOk {w : World} {g1x g1y g2x g2y : Bool} {a1x aa1x a1y aa1y a2x aa2x a2y aa2y : Option Addr} {l1x c1x ll1x cc1x l1y c1y ll1y cc1y l2x c2x ll2x cc2x l2y c2y ll2y cc2y k1x k1y k2x k2y : Nat} {x1 y1 x2 y2 : Rat} [h1x : CQ w (.agg #[.bool g1x, .slice a1x l1x c1x, .slice aa1x ll1x cc1x]) x1 k1x] [h1y : CQ w (.agg #[.bool g1y, .slice a1y l1y c1y, .slice aa1y ll1y cc1y]) y1 k1y] [h2x : CQ w (.agg #[.bool g2x, .slice a2x l2x c2x, .slice aa2x ll2x cc2x]) x2 k2x] [h2y : CQ w (.agg #[.bool g2y, .slice a2y l2y c2y, .slice aa2y ll2y cc2y]) y2 k2y] (b : k1x ≤ 100 ∧ k1y ≤ 100 ∧ k2x ≤ 100 ∧ k2y ≤ 100) (h0 : Hid (¬ (thA y1 y2 = 0 ∧ x2 - x1 = 0))) :
    Calls Tryz.prog 18 #[.agg #[.bool g1x, .slice a1x l1x c1x, .slice aa1x ll1x cc1x, .bool g1y, .slice a1y l1y c1y, .slice aa1y ll1y cc1y], .agg #[.bool g2x, .slice a2x l2x c2x, .slice aa2x ll2x cc2x, .bool g2y, .slice a2y l2y c2y, .slice aa2y ll2y cc2y]] w (LZBRet w ((lnK (thA y1 y2) (thA y1 y2) (x2 - x1) (thC x1 y1 x2 y2))).num ((lnK (x2 - x1) (thA y1 y2) (x2 - x1) (thC x1 y1 x2 y2))).num ((lnK (thC x1 y1 x2 y2) (thA y1 y2) (x2 - x1) (thC x1 y1 x2 y2))).num true (10 * (max k1x k1y + max k2x k2y + 12) + 200)) := by
  go_enter Tryz.func18, Tryz.ntmps18
  go_upto_region 1 with fail
  go_cut [6] from 12 to 14 (fun s wx => ∃ (b6 : Nat) (gX : Bool) (aX : Option Addr) (lX cX : Nat) (aaX : Option Addr) (llX ccX : Nat) (gY : Bool) (aY : Option Addr) (lY cY : Nat) (aaY : Option Addr) (llY ccY : Nat), s = .pointer (some ⟨b6, 0, none⟩) ∧ Bx wx b6 48 [.bool gX, .slice aX lX cX, .slice aaX llX ccX, .bool gY, .slice aY lY cY, .slice aaY llY ccY] ∧ CQ wx (.agg #[.bool gX, .slice aX lX cX, .slice aaX llX ccX]) (x2 - x1) (max k1x k1y + max k2x k2y + 12) ∧ CQ wx (.agg #[.bool gY, .slice aY lY cY, .slice aaY llY ccY]) (y2 - y1) (max k1x k1y + max k2x k2y + 12) ∧ Bx wx w.heap.size 48 [.bool g1x, .slice a1x l1x c1x, .slice aa1x ll1x cc1x, .bool g1y, .slice a1y l1y c1y, .slice aa1y ll1y cc1y] ∧ Bx wx (w.heap.size + 1 + 1) 37 [.bool false, .slice none 0 0, .bool false, .slice none 0 0, .bool false, .slice none 0 0] ∧ CQ wx (.agg #[.bool g1x, .slice a1x l1x c1x, .slice aa1x ll1x cc1x]) x1 k1x ∧ CQ wx (.agg #[.bool g1y, .slice a1y l1y c1y, .slice aa1y ll1y cc1y]) y1 k1y ∧ Kp w wx)
  case first =>
    go_wp2_with (first
    | (go_at_call 60; (with_reducible refine Calls.cPQ (refPSubC (by omega)) ?_); intros))
    go_meet
    exact ⟨_, _, _, _, _, _, _, _, _, _, _, _, _, _, _, rfl, inferInstance, CQ.cast inferInstance rfl (by omega), CQ.cast inferInstance rfl (by omega), inferInstance, inferInstance, inferInstance, inferInstance, inferInstance⟩
  case rest =>
    obtain ⟨b6, gX, aX, lX, cX, aaX, llX, ccX, gY, aY, lY, cY, aaY, llY, ccY, rfl, i1, i2, i3, i4, i5, i6, i7, i8⟩ := hcut
    go_upto_region 2 with fail
    go_cut [7, 8] from 15 to 19 (fun p q wx => ∃ (b7 b8 : Nat) (gA : Bool) (aA : Option Addr) (lA cA : Nat) (aaA : Option Addr) (llA ccA : Nat), p = .pointer (some ⟨b7, 0, none⟩) ∧ q = .pointer (some ⟨b8, 0, none⟩) ∧ Bx wx b7 46 [.bool gA, .slice aA lA cA, .slice aaA llA ccA] ∧ Bx wx b8 46 [.bool gX, .slice aX lX cX, .slice aaX llX ccX] ∧ CQ wx (.agg #[.bool gA, .slice aA lA cA, .slice aaA llA ccA]) (thA y1 y2) (max k1x k1y + max k2x k2y + 12) ∧ Kp wc wx)
    case first =>
      refine rgn [] [] fun hHeld => ?_
      refine tk 0 hHeld ?_
      refine tk 1 hHeld ?_
      refine tk 3 hHeld ?_
      refine tk 4 hHeld ?_
      refine wpAnyT_inv [(2, 17), (5, 7), (6, 8)] (fun i => match i with | 2 => [] | 5 => [] | 6 => [] | _ => []) [phiQ (thA y1 y2) (max k1x k1y + max k2x k2y + 12), phiB wc 46 [.bool false, .slice none 0 0, .slice none 0 0], phiB wc 46 [.bool false, .slice none 0 0, .slice none 0 0]] [5, 6] 2 (by rfl) (by decide +kernel) (by decide) (by decide) (by kernel_rfl) ?_ (fun _ _ => Ex.below) hHeld ?_ ?_
      · intro i hi v W h
        simp only [List.mem_cons, List.not_mem_nil, or_false] at hi
        rcases hi with rfl | rfl
        all_goals exact phiB.old h
      · intro i hi f W hSw hbw hp
        have kw := Kp1.mk hbw
        have hSx := Ex1.mk hSw
        clear hHeld
        simp only [List.map_cons, List.map_nil, List.mem_cons, List.not_mem_nil, or_false] at hi
        rcases hi with rfl | rfl | rfl
        · refine ⟨_, by simp; rfl, fun K' hK => ?_⟩
          clear hp
          simp only [putAll, Act.put, List.setIfInBounds_toArray, List.set_cons_zero, List.set_cons_succ] at hK ⊢
          generalize f 2 = v2 at *
          generalize f 5 = v5 at *
          generalize f 6 = v6 at *
          go_simp
          (with_reducible refine Calls.cQ (numOppC) ?_); intros
          refine hK.out _ _ _ rfl (inferInstance : Kp W _).out ?_ ?_
          · exact phiQ.fin rfl (by omega)
          · exact fun h => absurd h (by decide)
        · refine ⟨_, by simp; rfl, fun K' hK => ?_⟩
          clear hp
          simp only [putAll, Act.put, List.setIfInBounds_toArray, List.set_cons_zero, List.set_cons_succ] at hK ⊢
          generalize f 2 = v2 at *
          generalize f 5 = v5 at *
          generalize f 6 = v6 at *
          go_simp
          refine hK.out _ _ _ rfl (inferInstance : Kp W _).out ?_ ?_
          · exact phiB.fin
          · exact fun _ => ⟨_, rfl, Nat.le_refl _⟩
        · refine ⟨_, by simp; rfl, fun K' hK => ?_⟩
          clear hp
          simp only [putAll, Act.put, List.setIfInBounds_toArray, List.set_cons_zero, List.set_cons_succ] at hK ⊢
          generalize f 2 = v2 at *
          generalize f 5 = v5 at *
          generalize f 6 = v6 at *
          go_simp
          refine hK.out _ _ _ rfl (inferInstance : Kp W _).out ?_ ?_
          · exact phiB.fin
          · exact fun _ => ⟨_, rfl, Nat.le_refl _⟩
      · intro f W hSw hbw hf hne
        have kw := Kp1.mk hbw
        have hSx := Ex1.mk hSw
        clear hHeld
        have h2 : phiQ (thA y1 y2) (max k1x k1y + max k2x k2y + 12) (f 2) W := hf 2 (by decide)
        have h5 : phiB wc 46 [.bool false, .slice none 0 0, .slice none 0 0] (f 5) W := hf 5 (by decide)
        have h6 : phiB wc 46 [.bool false, .slice none 0 0, .slice none 0 0] (f 6) W := hf 6 (by decide)
        have n5_6 := hne 5 6 (by decide) (by decide) (by decide) (by decide) (by decide)
        clear hf hne
        simp only [putAll, lset, List.map_cons, List.map_nil, Act.put, List.setIfInBounds_toArray, List.set_cons_zero, List.set_cons_succ]
        generalize f 2 = v2 at *
        generalize f 5 = v5 at *
        generalize f 6 = v6 at *
        obtain ⟨g2, a2, l2, c2, aa2, ll2, cc2, rfl, i2⟩ := h2
        obtain ⟨b5, rfl, i5, j5, k5⟩ := h5
        obtain ⟨b6, rfl, i6, j6, k6⟩ := h6
        have n5_6 := ptr_ne n5_6
        have n6_5 : NeN b6 b5 := ⟨fun e => n5_6.out e.symm⟩
        have hHeld := hSw
        refine st 7 fun K hK => ?_
        go_simp
        refine hd hK ?_
        clear hHeld hK K
        intro hHeld
        refine st 8 fun K hK => ?_
        go_simp
        refine hd hK ?_
        clear hHeld hK K
        intro hHeld
        refine dn ?_
        clear hHeld
        go_wp2_with fail
        go_meet
        exact ⟨_, _, _, _, _, _, _, _, _, rfl, rfl, inferInstance, inferInstance, inferInstance, inferInstance⟩
    case rest =>
      obtain ⟨b7, b8, gA, aA, lA, cA, aaA, llA, ccA, rfl, rfl, m1, m2, m3, ⟨m4⟩⟩ := hcut
      have m5 := Kp1.mk m4
      have m6 : Kp w wc := inferInstance
      go_upto_region 3 with fail
      go_cut [9] from 20 to 29 (fun p wx => ∃ (b9 : Nat) (gC : Bool) (aC : Option Addr) (lC cC : Nat) (aaC : Option Addr) (llC ccC : Nat), p = .pointer (some ⟨b9, 0, none⟩) ∧ Bx wx b9 46 [.bool gC, .slice aC lC cC, .slice aaC llC ccC] ∧ CQ wx (.agg #[.bool gC, .slice aC lC cC, .slice aaC llC ccC]) (thC x1 y1 x2 y2) (4 * (max k1x k1y + max k2x k2y + 12) + 40) ∧ Kp wc wx)
      case first =>
        refine rgn [] [] fun hHeld => ?_
        refine tk 0 hHeld ?_
        refine tk 1 hHeld ?_
        refine tk 2 hHeld ?_
        refine tk 4 hHeld ?_
        refine tk 5 hHeld ?_
        refine tk 6 hHeld ?_
        refine wpAnyT_inv [(3, 23), (7, 27), (8, 28), (9, 29), (10, 9)] (fun i => match i with | 3 => [] | 7 => [3] | 8 => [3, 7] | 9 => [8] | 10 => [] | _ => []) [phiQ (thA y1 y2 * x1) ((max k1x k1y + max k2x k2y + 12) + k1x + 5), phiQ ((x2 - x1) * y1) ((max k1x k1y + max k2x k2y + 12) + k1y + 5), phiQ (thA y1 y2 * x1 + (x2 - x1) * y1) (2 * (max k1x k1y + max k2x k2y + 12) + k1x + k1y + 15), phiQ (thC x1 y1 x2 y2) (4 * (max k1x k1y + max k2x k2y + 12) + 40), phiB wc 46 [.bool false, .slice none 0 0, .slice none 0 0]] [10] 1 (by rfl) (by decide +kernel) (by decide) (by decide) (by kernel_rfl) ?_ (fun _ _ => Ex.below) hHeld ?_ ?_
        · intro i hi v W h
          simp only [List.mem_cons, List.not_mem_nil, or_false] at hi
          rcases hi with rfl
          all_goals exact phiB.old h
        · intro i hi f W hSw hbw hp
          have kw := Kp1.mk hbw
          have hSx := Ex1.mk hSw
          clear hHeld
          simp only [List.map_cons, List.map_nil, List.mem_cons, List.not_mem_nil, or_false] at hi
          rcases hi with rfl | rfl | rfl | rfl | rfl
          · refine ⟨_, by simp; rfl, fun K' hK => ?_⟩
            clear hp
            simp only [putAll, Act.put, List.setIfInBounds_toArray, List.set_cons_zero, List.set_cons_succ] at hK ⊢
            generalize f 3 = v3 at *
            generalize f 7 = v7 at *
            generalize f 8 = v8 at *
            generalize f 9 = v9 at *
            generalize f 10 = v10 at *
            go_simp
            (with_reducible refine Calls.cQ (numTimesC (by omega)) ?_); intros
            refine hK.out _ _ _ rfl (inferInstance : Kp W _).out ?_ ?_
            · exact phiQ.fin rfl (by omega)
            · exact fun h => absurd h (by decide)
          · have h3 : phiQ (thA y1 y2 * x1) ((max k1x k1y + max k2x k2y + 12) + k1x + 5) (f 3) W := hp 3 (by decide)
            refine ⟨_, by simp; rfl, fun K' hK => ?_⟩
            clear hp
            simp only [putAll, Act.put, List.setIfInBounds_toArray, List.set_cons_zero, List.set_cons_succ] at hK ⊢
            generalize f 3 = v3 at *
            generalize f 7 = v7 at *
            generalize f 8 = v8 at *
            generalize f 9 = v9 at *
            generalize f 10 = v10 at *
            obtain ⟨g3, a3, l3, c3, aa3, ll3, cc3, rfl, i3⟩ := h3
            go_simp
            (with_reducible refine Calls.cQ (numTimesC (by omega)) ?_); intros
            refine hK.out _ _ _ rfl (inferInstance : Kp W _).out ?_ ?_
            · exact phiQ.fin rfl (by omega)
            · exact fun h => absurd h (by decide)
          · have h3 : phiQ (thA y1 y2 * x1) ((max k1x k1y + max k2x k2y + 12) + k1x + 5) (f 3) W := hp 3 (by decide)
            have h7 : phiQ ((x2 - x1) * y1) ((max k1x k1y + max k2x k2y + 12) + k1y + 5) (f 7) W := hp 7 (by decide)
            refine ⟨_, by simp; rfl, fun K' hK => ?_⟩
            clear hp
            simp only [putAll, Act.put, List.setIfInBounds_toArray, List.set_cons_zero, List.set_cons_succ] at hK ⊢
            generalize f 3 = v3 at *
            generalize f 7 = v7 at *
            generalize f 8 = v8 at *
            generalize f 9 = v9 at *
            generalize f 10 = v10 at *
            obtain ⟨g3, a3, l3, c3, aa3, ll3, cc3, rfl, i3⟩ := h3
            obtain ⟨g7, a7, l7, c7, aa7, ll7, cc7, rfl, i7⟩ := h7
            go_simp
            (with_reducible refine Calls.cQ (numPlusC (by omega)) ?_); intros
            refine hK.out _ _ _ rfl (inferInstance : Kp W _).out ?_ ?_
            · exact phiQ.fin rfl (by omega)
            · exact fun h => absurd h (by decide)
          · have h8 : phiQ (thA y1 y2 * x1 + (x2 - x1) * y1) (2 * (max k1x k1y + max k2x k2y + 12) + k1x + k1y + 15) (f 8) W := hp 8 (by decide)
            refine ⟨_, by simp; rfl, fun K' hK => ?_⟩
            clear hp
            simp only [putAll, Act.put, List.setIfInBounds_toArray, List.set_cons_zero, List.set_cons_succ] at hK ⊢
            generalize f 3 = v3 at *
            generalize f 7 = v7 at *
            generalize f 8 = v8 at *
            generalize f 9 = v9 at *
            generalize f 10 = v10 at *
            obtain ⟨g8, a8, l8, c8, aa8, ll8, cc8, rfl, i8⟩ := h8
            go_simp
            (with_reducible refine Calls.cQ (numOppC) ?_); intros
            refine hK.out _ _ _ rfl (inferInstance : Kp W _).out ?_ ?_
            · exact phiQ.fin rfl (by omega)
            · exact fun h => absurd h (by decide)
          · refine ⟨_, by simp; rfl, fun K' hK => ?_⟩
            clear hp
            simp only [putAll, Act.put, List.setIfInBounds_toArray, List.set_cons_zero, List.set_cons_succ] at hK ⊢
            generalize f 3 = v3 at *
            generalize f 7 = v7 at *
            generalize f 8 = v8 at *
            generalize f 9 = v9 at *
            generalize f 10 = v10 at *
            go_simp
            refine hK.out _ _ _ rfl (inferInstance : Kp W _).out ?_ ?_
            · exact phiB.fin
            · exact fun _ => ⟨_, rfl, Nat.le_refl _⟩
        · intro f W hSw hbw hf hne
          have kw := Kp1.mk hbw
          have hSx := Ex1.mk hSw
          clear hHeld
          have h3 : phiQ (thA y1 y2 * x1) ((max k1x k1y + max k2x k2y + 12) + k1x + 5) (f 3) W := hf 3 (by decide)
          have h7 : phiQ ((x2 - x1) * y1) ((max k1x k1y + max k2x k2y + 12) + k1y + 5) (f 7) W := hf 7 (by decide)
          have h8 : phiQ (thA y1 y2 * x1 + (x2 - x1) * y1) (2 * (max k1x k1y + max k2x k2y + 12) + k1x + k1y + 15) (f 8) W := hf 8 (by decide)
          have h9 : phiQ (thC x1 y1 x2 y2) (4 * (max k1x k1y + max k2x k2y + 12) + 40) (f 9) W := hf 9 (by decide)
          have h10 : phiB wc 46 [.bool false, .slice none 0 0, .slice none 0 0] (f 10) W := hf 10 (by decide)
          clear hf hne
          simp only [putAll, lset, List.map_cons, List.map_nil, Act.put, List.setIfInBounds_toArray, List.set_cons_zero, List.set_cons_succ]
          generalize f 3 = v3 at *
          generalize f 7 = v7 at *
          generalize f 8 = v8 at *
          generalize f 9 = v9 at *
          generalize f 10 = v10 at *
          obtain ⟨g3, a3, l3, c3, aa3, ll3, cc3, rfl, i3⟩ := h3
          obtain ⟨g7, a7, l7, c7, aa7, ll7, cc7, rfl, i7⟩ := h7
          obtain ⟨g8, a8, l8, c8, aa8, ll8, cc8, rfl, i8⟩ := h8
          obtain ⟨g9, a9, l9, c9, aa9, ll9, cc9, rfl, i9⟩ := h9
          obtain ⟨b10, rfl, i10, j10, k10⟩ := h10
          have hHeld := hSw
          refine st 11 fun K hK => ?_
          go_simp
          refine hd hK ?_
          clear hHeld hK K
          intro hHeld
          refine dn ?_
          clear hHeld
          go_wp2_with fail
          go_meet
          exact ⟨_, _, _, _, _, _, _, _, rfl, inferInstance, inferInstance, inferInstance⟩
      case rest =>
        obtain ⟨b9, gC, aC, lC, cC, aaC, llC, ccC, rfl, r1, r2, ⟨r3⟩⟩ := hcut
        have r5 := Kp1.mk r3
        have r6 : Kp w wc := inferInstance
        have hfld : ∀ (x0 x1 x2 : Value) (W : World), (Instr.field 46 (.agg #[x0, x1, x2]) 0).run Tryz.prog W = .ok (.agg #[x0, x1]) W := fun _ _ _ _ => by kernel_rfl
        go_wp2_with fail
        refine rgn [] [] fun hHeld => ?_
        refine tk 0 hHeld ?_
        refine tk 2 hHeld ?_
        refine tk 5 hHeld ?_
        refine st 1 fun K hK => ?_
        go_simp
        (with_reducible refine Calls.cN (numDenC) ?_); intros
        refine hd hK ?_
        clear hHeld hK K
        intro hHeld
        refine st 3 fun K hK => ?_
        go_simp
        (with_reducible refine Calls.cN (numDenC) ?_); intros
        refine hd hK ?_
        clear hHeld hK K
        intro hHeld
        refine st 4 fun K hK => ?_
        go_simp
        (with_reducible refine Calls.cN (numProductC (by omega)) ?_); intros
        refine hd hK ?_
        clear hHeld hK K
        intro hHeld
        refine st 6 fun K hK => ?_
        go_simp
        (with_reducible refine Calls.cN (numDenC) ?_); intros
        refine hd hK ?_
        clear hHeld hK K
        intro hHeld
        refine st 7 fun K hK => ?_
        go_simp
        (with_reducible refine Calls.cN (numProductC (by omega)) ?_); intros
        refine hd hK ?_
        clear hHeld hK K
        intro hHeld
        refine tk 8 hHeld ?_
        refine dn ?_
        clear hHeld
        obtain ⟨hne, e1, e2, e3⟩ := thr_num (c := thC x1 y1 x2 y2) (M := sgn false ((thA y1 y2).den * (x2 - x1).den * (thC x1 y1 x2 y2).den)) h0.out rfl
        have HNE := Lib.hid hne
        have HE := Lib.hid (And.intro e1 (And.intro e2 e3))
        clear hne e1 e2 e3
        go_wp2_with (first
    | (go_at_call 55; (with_reducible refine Calls.cSg (makeC) ?_); intros))
        refine rgn [] [15, 16] fun hHeld => ?_
        refine tk 0 hHeld ?_
        refine tk 1 hHeld ?_
        refine tk 4 hHeld ?_
        refine tk 5 hHeld ?_
        refine tk 8 hHeld ?_
        refine tk 9 hHeld ?_
        refine st 2 fun K hK => ?_
        go_simp
        (go_at_call 62; (with_reducible refine Calls.cQz (numTimesC (by omega)) ?_); intros)
        refine hd hK ?_
        clear hHeld hK K
        intro hHeld
        refine tk 3 hHeld ?_
        refine st 6 fun K hK => ?_
        go_simp
        (go_at_call 62; (with_reducible refine Calls.cQz (numTimesC (by omega)) ?_); intros)
        refine hd hK ?_
        clear hHeld hK K
        intro hHeld
        refine tk 7 hHeld ?_
        refine st 10 fun K hK => ?_
        go_simp
        (go_at_call 62; (with_reducible refine Calls.cQz (numTimesC (by omega)) ?_); intros)
        refine hd hK ?_
        clear hHeld hK K
        intro hHeld
        refine tk 11 hHeld ?_
        refine st 12 fun K hK => ?_
        go_simp
        (with_reducible refine Calls.cLZB (refMakeOk (by omega) HNE) ?_); intros
        refine hd hK ?_
        clear hHeld hK K
        intro hHeld
        refine tk 13 hHeld ?_
        refine tk 14 hHeld ?_
        refine st 15 fun K hK => ?_
        go_simp
        refine hdT hK ?_
        clear hK K
        refine tk0 16 ?_
        refine dn ?_
        clear hHeld
        go_wp2_with fail
        refine ret_bt rfl Tryz.underlying37 rfl (by kernel_rfl) rfl rfl rfl ?_
        exact LZBRet.fin HE.out.1 (by omega) HE.out.2.1 (by omega) HE.out.2.2 (by omega)

/-- A valid line is read off the tape. -/
def TLRet (w : World) (t : Nat) (k : Nat) (e : Ending) (w' : World) : Prop := ∃ (gx : Bool) (ax : Option Addr) (lx cx : Nat) (gy : Bool) (ay : Option Addr) (ly cy : Nat) (gz : Bool) (az : Option Addr) (lz cz : Nat) (la lb lc : Int), e = .returned (.agg #[.bool gx, .slice ax lx cx, .bool gy, .slice ay ly cy, .bool gz, .slice az lz cz]) ∧ CZ w' (.agg #[.bool gx, .slice ax lx cx]) la k ∧ CZ w' (.agg #[.bool gy, .slice ay ly cy]) lb k ∧ CZ w' (.agg #[.bool gz, .slice az lz cz]) lc k ∧ Hid (LnV la lb lc) ∧ Ct w' t ∧ Gb w w' t
theorem Calls.cTL {P : Program} {f : FuncId} {args : Array Value} {w : World} {t k : Nat} {K : Ending → World → Prop} [ht : Ct w t] (h : Calls P f args w (TLRet w t k))
    (hK : ∀ w' [Tp1 w w' t] [Ct w' t] (gx : Bool) (ax : Option Addr) (lx cx : Nat) (gy : Bool) (ay : Option Addr) (ly cy : Nat) (gz : Bool) (az : Option Addr) (lz cz : Nat) (la lb lc : Int) [CZ w' (.agg #[.bool gx, .slice ax lx cx]) la k] [CZ w' (.agg #[.bool gy, .slice ay ly cy]) lb k] [CZ w' (.agg #[.bool gz, .slice az lz cz]) lc k], Hid (LnV la lb lc) → K (.returned (.agg #[.bool gx, .slice ax lx cx, .bool gy, .slice ay ly cy, .bool gz, .slice az lz cz])) w') : Calls P f args w K := by
  refine h.mono ?_
  rintro e w' ⟨gx, ax, lx, cx, gy, ay, ly, cy, gz, az, lz, cz, la, lb, lc, rfl, hx, hy, hz, hv, hc, hb⟩
  exact @hK w' ⟨hb.out, ht.out⟩ hc gx ax lx cx gy ay ly cy gz az lz cz la lb lc hx hy hz hv
theorem tapeLC {w : World} {t : Nat} [ht : Ct w t] : Calls Tryz.prog 20 #[.pointer (some ⟨t, 0, none⟩)] w (TLRet w t 1) := by
  go_enter Tryz.func20, Tryz.ntmps20
  go_wp2_with fail
  with_reducible refine Calls.cTPI tapePI ?_
  intro W1 _ _ g a l c aa ll cc g2 a2 l2 c2 aa2 ll2 cc2 x y _ _ hp
  go_wp2_with fail
  refine rgn [t] [] fun hHeld => ?_
  refine tk 0 hHeld ?_
  refine tk 1 hHeld ?_
  refine tk 3 hHeld ?_
  refine wpAnyT_ready (rs := [2, 10]) (by kernel_rfl) (by simp) ?_
  refine AllT.cons (by simp; rfl) (fun K hK => ?_) (AllT.cons (by simp; rfl) (fun K hK => ?_) AllT.nil)
  go_simp
  (with_reducible refine Calls.cQ (numOfC (by omega)) ?_); intros
  refine hd hK ?_
  clear hHeld hK K
  intro hHeld
  refine wpAnyT_ready (rs := [4, 10]) (by kernel_rfl) (by simp) ?_
  refine AllT.cons (by simp; rfl) (fun K hK => ?_) (AllT.cons (by simp; rfl) (fun K hK => ?_) AllT.nil)
  go_simp
  (go_at_call 69; (with_reducible refine Calls.cTVI tapeVI ?_); intro W6 _ _ G A L C AA LL CC G2 A2 L2 C2 AA2 LL2 CC2 u v _ _ hz)
  refine hd hK ?_
  clear hHeld hK K
  intro hHeld
  refine wpAnyT_ready (rs := [5, 10]) (by kernel_rfl) (by simp) ?_
  refine AllT.cons (by simp; rfl) (fun K hK => ?_) (AllT.cons (by simp; rfl) (fun K hK => ?_) AllT.nil)
  go_simp
  (with_reducible refine Calls.cPQ (refPAddC (by omega)) ?_); intros
  refine hd hK ?_
  clear hHeld hK K
  intro hHeld
  refine wpAnyT_ready (rs := [6, 10]) (by kernel_rfl) (by simp) ?_
  refine AllT.cons (by simp; rfl) (fun K hK => ?_) (AllT.cons (by simp; rfl) (fun K hK => ?_) AllT.nil)
  go_simp
  (with_reducible refine Calls.cLZB (refThroughOk (by omega) (tape_ne hz)) ?_); intros
  refine hd hK ?_
  clear hHeld hK K
  intro hHeld
  refine tk 7 hHeld ?_
  refine tk 8 hHeld ?_
  refine tk 9 hHeld ?_
  refine st 10 fun K hK => ?_
  go_simp
  refine hd hK ?_
  clear hHeld hK K
  intro hHeld
  refine st 11 fun K hK => ?_
  go_simp
  refine hd hK ?_
  clear hHeld hK K
  intro hHeld
  refine tk 12 hHeld ?_
  refine dn ?_
  clear hHeld
  go_wp2_with fail
  refine ret_bx rfl Tryz.underlying37 rfl (by kernel_rfl) rfl rfl rfl ?_
  exact ⟨_, _, _, _, _, _, _, _, _, _, _, _, _, _, _, rfl, CZ.tight inferInstance (tape_len hp hz).1, CZ.tight inferInstance (tape_len hp hz).2.1, CZ.tight inferInstance (tape_len hp hz).2.2, lnV_num _ (tape_ne hz).out, inferInstance, inferInstance⟩
  go_simp
  refine hd hK ?_
  clear hHeld hK K
  intro hHeld
  refine st 6 fun K hK => ?_
  go_simp
  (with_reducible refine Calls.cLZB (refThroughOk (by omega) (tape_ne hz)) ?_); intros
  refine hd hK ?_
  clear hHeld hK K
  intro hHeld
  refine tk 7 hHeld ?_
  refine tk 8 hHeld ?_
  refine tk 9 hHeld ?_
  refine st 11 fun K hK => ?_
  go_simp
  refine hd hK ?_
  clear hHeld hK K
  intro hHeld
  refine tk 12 hHeld ?_
  refine dn ?_
  clear hHeld
  go_wp2_with fail
  refine ret_bx rfl Tryz.underlying37 rfl (by kernel_rfl) rfl rfl rfl ?_
  exact ⟨_, _, _, _, _, _, _, _, _, _, _, _, _, _, _, rfl, CZ.tight inferInstance (tape_len hp hz).1, CZ.tight inferInstance (tape_len hp hz).2.1, CZ.tight inferInstance (tape_len hp hz).2.2, lnV_num _ (tape_ne hz).out, inferInstance, inferInstance⟩
  go_simp
  refine hd hK ?_
  clear hHeld hK K
  intro hHeld
  refine st 5 fun K hK => ?_
  go_simp
  (with_reducible refine Calls.cPQ (refPAddC (by omega)) ?_); intros
  refine hd hK ?_
  clear hHeld hK K
  intro hHeld
  refine st 6 fun K hK => ?_
  go_simp
  (with_reducible refine Calls.cLZB (refThroughOk (by omega) (tape_ne hz)) ?_); intros
  refine hd hK ?_
  clear hHeld hK K
  intro hHeld
  refine tk 7 hHeld ?_
  refine tk 8 hHeld ?_
  refine tk 9 hHeld ?_
  refine st 11 fun K hK => ?_
  go_simp
  refine hd hK ?_
  clear hHeld hK K
  intro hHeld
  refine tk 12 hHeld ?_
  refine dn ?_
  clear hHeld
  go_wp2_with fail
  refine ret_bx rfl Tryz.underlying37 rfl (by kernel_rfl) rfl rfl rfl ?_
  exact ⟨_, _, _, _, _, _, _, _, _, _, _, _, _, _, _, rfl, CZ.tight inferInstance (tape_len hp hz).1, CZ.tight inferInstance (tape_len hp hz).2.1, CZ.tight inferInstance (tape_len hp hz).2.2, lnV_num _ (tape_ne hz).out, inferInstance, inferInstance⟩
  go_simp
  refine hd hK ?_
  clear hHeld hK K
  intro hHeld
  refine st 4 fun K hK => ?_
  go_simp
  (go_at_call 69; (with_reducible refine Calls.cTVI tapeVI ?_); intro W6 _ _ G A L C AA LL CC G2 A2 L2 C2 AA2 LL2 CC2 u v _ _ hz)
  refine hd hK ?_
  clear hHeld hK K
  intro hHeld
  refine st 5 fun K hK => ?_
  go_simp
  (with_reducible refine Calls.cPQ (refPAddC (by omega)) ?_); intros
  refine hd hK ?_
  clear hHeld hK K
  intro hHeld
  refine st 6 fun K hK => ?_
  go_simp
  (with_reducible refine Calls.cLZB (refThroughOk (by omega) (tape_ne hz)) ?_); intros
  refine hd hK ?_
  clear hHeld hK K
  intro hHeld
  refine tk 7 hHeld ?_
  refine tk 8 hHeld ?_
  refine tk 9 hHeld ?_
  refine st 11 fun K hK => ?_
  go_simp
  refine hd hK ?_
  clear hHeld hK K
  intro hHeld
  refine tk 12 hHeld ?_
  refine dn ?_
  clear hHeld
  go_wp2_with fail
  refine ret_bx rfl Tryz.underlying37 rfl (by kernel_rfl) rfl rfl rfl ?_
  exact ⟨_, _, _, _, _, _, _, _, _, _, _, _, _, _, _, rfl, CZ.tight inferInstance (tape_len hp hz).1, CZ.tight inferInstance (tape_len hp hz).2.1, CZ.tight inferInstance (tape_len hp hz).2.2, lnV_num _ (tape_ne hz).out, inferInstance, inferInstance⟩
  go_simp
  refine hd hK ?_
  clear hHeld hK K
  intro hHeld
  refine st 2 fun K hK => ?_
  go_simp
  (with_reducible refine Calls.cQ (numOfC (by omega)) ?_); intros
  refine hd hK ?_
  clear hHeld hK K
  intro hHeld
  refine st 4 fun K hK => ?_
  go_simp
  (go_at_call 69; (with_reducible refine Calls.cTVI tapeVI ?_); intro W6 _ _ G A L C AA LL CC G2 A2 L2 C2 AA2 LL2 CC2 u v _ _ hz)
  refine hd hK ?_
  clear hHeld hK K
  intro hHeld
  refine st 5 fun K hK => ?_
  go_simp
  (with_reducible refine Calls.cPQ (refPAddC (by omega)) ?_); intros
  refine hd hK ?_
  clear hHeld hK K
  intro hHeld
  refine st 6 fun K hK => ?_
  go_simp
  (with_reducible refine Calls.cLZB (refThroughOk (by omega) (tape_ne hz)) ?_); intros
  refine hd hK ?_
  clear hHeld hK K
  intro hHeld
  refine tk 7 hHeld ?_
  refine tk 8 hHeld ?_
  refine tk 9 hHeld ?_
  refine st 11 fun K hK => ?_
  go_simp
  refine hd hK ?_
  clear hHeld hK K
  intro hHeld
  refine tk 12 hHeld ?_
  refine dn ?_
  clear hHeld
  go_wp2_with fail
  refine ret_bx rfl Tryz.underlying37 rfl (by kernel_rfl) rfl rfl rfl ?_
  exact ⟨_, _, _, _, _, _, _, _, _, _, _, _, _, _, _, rfl, CZ.tight inferInstance (tape_len hp hz).1, CZ.tight inferInstance (tape_len hp hz).2.1, CZ.tight inferInstance (tape_len hp hz).2.2, lnV_num _ (tape_ne hz).out, inferInstance, inferInstance⟩

end Go.Proofs.YtfdgglddldlpjaaGreat

/- The sanity check of the laws of layer 5; lines in canonical orientation. printed by a small program (mkln7.py). -/
namespace Go.Proofs.YtfdgglddldlpjaaGreat
open Go.RowKit
set_option maxRecDepth 100000
set_option maxHeartbeats 40000000
set_option synthInstance.maxSize 100000
set_option synthInstance.maxHeartbeats 1000000
set_option linter.unusedVariables false
set_option linter.unusedSimpArgs false

theorem isgn_neg' (z : Int) : isgn (-z) = -isgn z := by
  unfold isgn
  repeat' split
  all_goals omega
instance CZ.zz {W : World} : CZ W (.agg #[.bool false, .slice none 0 0]) 0 0 := ⟨⟨_, _, _, _, rfl, rfl, Nn.nil W 0⟩⟩
instance CQ.zz {W : World} : CQ W (.agg #[.bool false, .slice none 0 0, .slice none 0 0]) 0 0 := CQ.mk' (h1 := CZ.zz) (h2 := CN.nil) rfl rfl (Nat.le_refl _) (Nat.le_refl _)
theorem LnV.k1 : Hid (LnV 0 1 0) := ⟨by decide, by decide +kernel⟩
theorem lineSideV {w : World} {v : Int} {g1x g1y g1z g2x g2y : Bool} {a1x a1y a1z a2x aa2x a2y aa2y : Option Addr} {l1x c1x l1y c1y l1z c1z l2x c2x ll2x cc2x l2y c2y ll2y cc2y k1x k1y k1z k2x k2y : Nat} {la lb lc : Int} {x y : Rat} [h1x : CZ w (.agg #[.bool g1x, .slice a1x l1x c1x]) la k1x] [h1y : CZ w (.agg #[.bool g1y, .slice a1y l1y c1y]) lb k1y] [h1z : CZ w (.agg #[.bool g1z, .slice a1z l1z c1z]) lc k1z] [h2x : CW w (.agg #[.bool g2x, .slice a2x l2x c2x, .slice aa2x ll2x cc2x]) x k2x] [h2y : CW w (.agg #[.bool g2y, .slice a2y l2y c2y, .slice aa2y ll2y cc2y]) y k2y] (b : k1x ≤ 6000 ∧ k1y ≤ 6000 ∧ k1z ≤ 6000 ∧ k2x ≤ 6000 ∧ k2y ≤ 6000) (hv : Hid (LnV la lb lc)) (hs : Hid (isgn (((la : Int) : Rat) * x + ((lb : Int) : Rat) * y + ((lc : Int) : Rat)).num = v)) :
    Calls Tryz.prog 24 #[.agg #[.bool g1x, .slice a1x l1x c1x, .bool g1y, .slice a1y l1y c1y, .bool g1z, .slice a1z l1z c1z], .agg #[.bool g2x, .slice a2x l2x c2x, .slice aa2x ll2x cc2x, .bool g2y, .slice a2y l2y c2y, .slice aa2y ll2y cc2y]] w (fun e w' => e = .returned (.int .i64 v) ∧ Below w.heap.size w w') := by
  rw [← hs.out]; exact lineSideC (by omega) hv
theorem thKnown {w : World} {g1x g1y g2x g2y : Bool} {a1x aa1x a1y aa1y a2x aa2x a2y aa2y : Option Addr} {l1x c1x ll1x cc1x l1y c1y ll1y cc1y l2x c2x ll2x cc2x l2y c2y ll2y cc2y k1x k1y k2x k2y : Nat} {x1 y1 x2 y2 : Rat} [h1x : CW w (.agg #[.bool g1x, .slice a1x l1x c1x, .slice aa1x ll1x cc1x]) x1 k1x] [h1y : CW w (.agg #[.bool g1y, .slice a1y l1y c1y, .slice aa1y ll1y cc1y]) y1 k1y] [h2x : CW w (.agg #[.bool g2x, .slice a2x l2x c2x, .slice aa2x ll2x cc2x]) x2 k2x] [h2y : CW w (.agg #[.bool g2y, .slice a2y l2y c2y, .slice aa2y ll2y cc2y]) y2 k2y] (b : k1x ≤ 200 ∧ k1y ≤ 200 ∧ k2x ≤ 200 ∧ k2y ≤ 200) (e1 : Hid (x1 = ((0 : Int) : Rat) ∧ y1 = ((0 : Int) : Rat) ∧ x2 = ((2 : Int) : Rat) ∧ y2 = ((0 : Int) : Rat))) :
    Calls Tryz.prog 16 #[.agg #[.bool g1x, .slice a1x l1x c1x, .slice aa1x ll1x cc1x, .bool g1y, .slice a1y l1y c1y, .slice aa1y ll1y cc1y], .agg #[.bool g2x, .slice a2x l2x c2x, .slice aa2x ll2x cc2x, .bool g2y, .slice a2y l2y c2y, .slice aa2y ll2y cc2y]] w (LZBRet w 0 1 0 true (40 * (k1x + k1y + k2x + k2y) + 600)) := by
  obtain ⟨rfl, rfl, rfl, rfl⟩ := e1
  have h0 : Hid (¬ (thA ((0 : Int) : Rat) ((0 : Int) : Rat) = 0 ∧ ((2 : Int) : Rat) - ((0 : Int) : Rat) = 0)) := fun h => absurd h.2 (by decide +kernel)
  have key : LZBRet w 0 1 0 true (40 * (k1x + k1y + k2x + k2y) + 600) = LZBRet w (lnK (thA ((0 : Int) : Rat) ((0 : Int) : Rat)) (thA ((0 : Int) : Rat) ((0 : Int) : Rat)) (((2 : Int) : Rat) - ((0 : Int) : Rat)) (thC ((0 : Int) : Rat) ((0 : Int) : Rat) ((2 : Int) : Rat) ((0 : Int) : Rat))).num (lnK (((2 : Int) : Rat) - ((0 : Int) : Rat)) (thA ((0 : Int) : Rat) ((0 : Int) : Rat)) (((2 : Int) : Rat) - ((0 : Int) : Rat)) (thC ((0 : Int) : Rat) ((0 : Int) : Rat) ((2 : Int) : Rat) ((0 : Int) : Rat))).num (lnK (thC ((0 : Int) : Rat) ((0 : Int) : Rat) ((2 : Int) : Rat) ((0 : Int) : Rat)) (thA ((0 : Int) : Rat) ((0 : Int) : Rat)) (((2 : Int) : Rat) - ((0 : Int) : Rat)) (thC ((0 : Int) : Rat) ((0 : Int) : Rat) ((2 : Int) : Rat) ((0 : Int) : Rat))).num true (40 * (k1x + k1y + k2x + k2y) + 600) := by
    rw [show (lnK (thA ((0 : Int) : Rat) ((0 : Int) : Rat)) (thA ((0 : Int) : Rat) ((0 : Int) : Rat)) (((2 : Int) : Rat) - ((0 : Int) : Rat)) (thC ((0 : Int) : Rat) ((0 : Int) : Rat) ((2 : Int) : Rat) ((0 : Int) : Rat))).num = 0 by decide +kernel, show (lnK (((2 : Int) : Rat) - ((0 : Int) : Rat)) (thA ((0 : Int) : Rat) ((0 : Int) : Rat)) (((2 : Int) : Rat) - ((0 : Int) : Rat)) (thC ((0 : Int) : Rat) ((0 : Int) : Rat) ((2 : Int) : Rat) ((0 : Int) : Rat))).num = 1 by decide +kernel, show (lnK (thC ((0 : Int) : Rat) ((0 : Int) : Rat) ((2 : Int) : Rat) ((0 : Int) : Rat)) (thA ((0 : Int) : Rat) ((0 : Int) : Rat)) (((2 : Int) : Rat) - ((0 : Int) : Rat)) (thC ((0 : Int) : Rat) ((0 : Int) : Rat) ((2 : Int) : Rat) ((0 : Int) : Rat))).num = 0 by decide +kernel]
  rw [key]
  exact lineThroughOk (by omega) h0

theorem known05C {w : World} : Calls Tryz.prog 8 #[] w fun e w' => e = .returned (.bool true) ∧ Below w.heap.size w w' := by
  have H1 : Hid (isgn (((0 : Int) : Rat) * ((5 : Int) : Rat) + ((1 : Int) : Rat) * ((1 : Int) : Rat) + ((0 : Int) : Rat)).num = 1) := by show _ = _; decide +kernel
  go_enter Tryz.func8, Tryz.ntmps8
  go_wp2_with (first | (go_at_call 47; (with_reducible refine Calls.cPA (fromIntsC (by omega)) ?_); intros) | (go_at_call 16; (with_reducible refine Calls.cLZB (thKnown (by omega) (Lib.hid (And.intro rfl (And.intro rfl (And.intro rfl rfl))))) ?_); intros))
  refine rgn [] [] fun hHeld => ?_
  refine tk 0 hHeld ?_
  refine tk 1 hHeld ?_
  refine tk 2 hHeld ?_
  refine st 3 fun K hK => ?_
  go_simp
  (with_reducible refine Calls.cE (validC (by omega) LnV.k1) ?_); intros
  refine hd hK ?_
  clear hHeld hK K
  intro hHeld
  refine tk 4 hHeld ?_
  refine tk 5 hHeld ?_
  refine tk 6 hHeld ?_
  refine st 7 fun K hK => ?_
  go_simp
  (with_reducible refine Calls.cPA (fromIntsC (by omega)) ?_); intros
  refine hd hK ?_
  clear hHeld hK K
  intro hHeld
  refine st 8 fun K hK => ?_
  go_simp
  (with_reducible refine Calls.cE (lineSideV (by omega) LnV.k1 H1) ?_); intros
  refine hd hK ?_
  clear hHeld hK K
  intro hHeld
  refine tk 9 hHeld ?_
  refine tk 10 hHeld ?_
  refine tk 11 hHeld ?_
  refine tk 12 hHeld ?_
  refine st 13 fun K hK => ?_
  go_simp
  (with_reducible refine Calls.cPA (lineDirectionC (by omega) LnV.k1) ?_); intros
  refine hd hK ?_
  clear hHeld hK K
  intro hHeld
  refine st 14 fun K hK => ?_
  go_simp
  (with_reducible refine Calls.cPQ (refXyC (by omega)) ?_); intros
  refine hd hK ?_
  clear hHeld hK K
  intro hHeld
  refine st 15 fun K hK => ?_
  go_simp
  (with_reducible refine Calls.cPA (toPC (by omega)) ?_); intros
  refine hd hK ?_
  clear hHeld hK K
  intro hHeld
  refine st 16 fun K hK => ?_
  go_simp
  (with_reducible refine Calls.cE (samePC rfl (by decide +kernel)) ?_); intros
  refine hd hK ?_
  clear hHeld hK K
  intro hHeld
  refine tk 17 hHeld ?_
  refine tk 18 hHeld ?_
  refine dn ?_
  clear hHeld
  go_wp2
  go_ret
  exact E.fin rfl

theorem sameP05C {w : World} {g1x g1y g2x g2y : Bool} {a1x aa1x a1y aa1y a2x aa2x a2y aa2y : Option Addr} {l1x c1x ll1x cc1x l1y c1y ll1y cc1y l2x c2x ll2x cc2x l2y c2y ll2y cc2y k1x k1y k2x k2y : Nat} {x1 y1 x2 y2 : Rat} [h1x : CA w (.agg #[.bool g1x, .slice a1x l1x c1x, .slice aa1x ll1x cc1x]) x1 k1x] [h1y : CA w (.agg #[.bool g1y, .slice a1y l1y c1y, .slice aa1y ll1y cc1y]) y1 k1y] [h2x : CQ w (.agg #[.bool g2x, .slice a2x l2x c2x, .slice aa2x ll2x cc2x]) x2 k2x] [h2y : CQ w (.agg #[.bool g2y, .slice a2y l2y c2y, .slice aa2y ll2y cc2y]) y2 k2y] (b : k1x ≤ 90000 ∧ k1y ≤ 90000 ∧ k2x ≤ 90000 ∧ k2y ≤ 90000) (hx : x1 = x2) (hy : y1 = y2) :
    Calls Tryz.prog 43 #[.agg #[.bool g1x, .slice a1x l1x c1x, .slice aa1x ll1x cc1x, .bool g1y, .slice a1y l1y c1y, .slice aa1y ll1y cc1y], .agg #[.bool g2x, .slice a2x l2x c2x, .slice aa2x ll2x cc2x, .bool g2y, .slice a2y l2y c2y, .slice aa2y ll2y cc2y]] w (fun e w' => e = .returned (.bool true) ∧ Below w.heap.size w w') := by
  subst hx hy
  go_enter Tryz.func43, Tryz.ntmps43
  go_wp2_with fail
  refine rgn [] [] fun hHeld => ?_
  refine tk 0 hHeld ?_
  refine tk 1 hHeld ?_
  refine st 2 fun K hK => ?_
  go_simp
  (with_reducible refine Calls.cPA (toPC (by omega)) ?_); intros
  refine hd hK ?_
  clear hHeld hK K
  intro hHeld
  refine st 3 fun K hK => ?_
  go_simp
  (with_reducible refine Calls.cE (samePC rfl rfl) ?_); intros
  refine hd hK ?_
  clear hHeld hK K
  intro hHeld
  refine tk 4 hHeld ?_
  refine dn ?_
  clear hHeld
  go_wp2_with fail
  go_ret
  exact E.fin rfl

theorem or2V {w : World} {q : Nat} {a b v : Int} [h : Bx w q 3 [.int .i64 a, .int .i64 b]] (hs : Hid (or3 a b 0 = v)) : Calls Tryz.prog 145 #[.slice (some ⟨q, 0, none⟩) 2 2] w fun e w' => e = .returned (.int .i64 v) ∧ Below w.heap.size w w' := by
  rw [← hs.out]; exact or2C
end Go.Proofs.YtfdgglddldlpjaaGreat
