/-
  Texts of this claim, joined: Ln14, LawLMk.
-/
import Derived.Test.YtfdgglddldlpjaaGreatGS
/- Lines from coefficients: package line and the reference; whether coefficients are short. printed by a small program (mkln14.py). -/
namespace Go.Proofs.YtfdgglddldlpjaaGreat
open Go.RowKit
set_option maxRecDepth 100000
set_option maxHeartbeats 40000000
set_option synthInstance.maxSize 100000
set_option synthInstance.maxHeartbeats 1000000
set_option linter.unusedVariables false

theorem rowKeep {k : IntKind} {w w' : World} {a : Option Addr} {len cap : Nat} {zs : List Int} (h : IsRow k w a len cap zs) (hb : Below w.heap.size w w') : IsRow k w' a len cap zs := by
  rcases h with h | ⟨x, h1, h2, h3, h4, h5, h6⟩
  · exact .inl h
  · exact .inr ⟨x, h1, h2, h3, h4, fun i hi => (hb.cell (lt_of_cell (h5 i hi))).trans (h5 i hi), h6⟩
theorem Calls.cNzero {P : Program} {f : FuncId} {args : Array Value} {w : World} {n k : Nat} {K : Ending → World → Prop} (h : Calls P f args w (CNRet w n k)) (hn : n = 0)
    (hK : ∀ w' [Kp1 w w'] (a : Option Addr) (c : Nat), K (.returned (.slice a 0 c)) w') : Calls P f args w K := by
  refine h.mono ?_
  rintro e w' ⟨a, l, c, rfl, hx, hb⟩
  obtain rfl : l = 0 := by rw [hx.out.len, hn]; rfl
  exact @hK w' ⟨hb⟩ a c
theorem lnK_num {a b c x : Int} (h : ¬ (a = 0 ∧ b = 0)) (hd : ((gcd3 a b c : Nat) : Int) ∣ x) : (lnK (x : Rat) (a : Rat) (b : Rat) (c : Rat)).num = x / ((gcd3 a b c : Nat) : Int) := by
  rw [lnK_int h hd]; rfl
theorem int_ne {a b : Int} (h : ¬ (a = 0 ∧ b = 0)) : ¬ ((a : Rat) = 0 ∧ (b : Rat) = 0) := fun e => h ⟨by exact_mod_cast e.1, by exact_mod_cast e.2⟩
theorem small3C {w : World} {q : Nat} {a0 a1 a2 : Option Addr} {l0 l1 l2 c0 c1 c2 : Nat} [h : Bx w q 23 [.slice a0 l0 c0, .slice a1 l1 c1, .slice a2 l2 c2]] {v : Bool} (hv : Hid (decide (l0 ≤ 5 ∧ l1 ≤ 5 ∧ l2 ≤ 5) = v)) :
    Calls Tryz.prog 7 #[.int .i64 5, .slice (some ⟨q, 0, none⟩) 3 3] w fun e w' => e = .returned (.bool v) ∧ Below w.heap.size w w' := by
  by_cases h0 : l0 ≤ 5
  · by_cases h1 : l1 ≤ 5
    · by_cases h2 : l2 ≤ 5
      · have f0 : (l0 : Int) ≤ 5 := by omega
        have f1 : (l1 : Int) ≤ 5 := by omega
        have f2 : (l2 : Int) ≤ 5 := by omega
        obtain rfl : true = v := by have := hv.out; rw [← this]; simp; omega
        clear hv
        go_enter Tryz.func7, Tryz.ntmps7
        go_wp2_with fail
        refine wp_loop_rounds 4 ?_
        rw [rounds_succ]
        go_wp2_with fail
        rw [rounds_succ]
        go_wp2_with fail
        rw [rounds_succ]
        go_wp2_with fail
        rw [rounds_succ]
        go_wp2_with fail
        go_ret
        exact E.fin rfl
      · have f0 : (l0 : Int) ≤ 5 := by omega
        have f1 : (l1 : Int) ≤ 5 := by omega
        have f2 : (5 : Int) < l2 := by omega
        obtain rfl : false = v := by have := hv.out; rw [← this]; simp; omega
        clear hv
        go_enter Tryz.func7, Tryz.ntmps7
        go_wp2_with fail
        refine wp_loop_rounds 3 ?_
        rw [rounds_succ]
        go_wp2_with fail
        rw [rounds_succ]
        go_wp2_with fail
        rw [rounds_succ]
        go_wp2_with fail
        go_ret
        exact E.fin rfl
    · have f0 : (l0 : Int) ≤ 5 := by omega
      have f1 : (5 : Int) < l1 := by omega
      obtain rfl : false = v := by have := hv.out; rw [← this]; simp; omega
      clear hv
      go_enter Tryz.func7, Tryz.ntmps7
      go_wp2_with fail
      refine wp_loop_rounds 2 ?_
      rw [rounds_succ]
      go_wp2_with fail
      rw [rounds_succ]
      go_wp2_with fail
      go_ret
      exact E.fin rfl
  · have f0 : (5 : Int) < l0 := by omega
    obtain rfl : false = v := by have := hv.out; rw [← this]; simp; omega
    clear hv
    go_enter Tryz.func7, Tryz.ntmps7
    go_wp2_with fail
    refine wp_loop_rounds 1 ?_
    rw [rounds_succ]
    go_wp2_with fail
    go_ret
    exact E.fin rfl

def phiZ (x : Int) (k : Nat) (u : Value) (W : World) : Prop := ∃ g a l c, u = .agg #[.bool g, .slice a l c] ∧ CZ W (.agg #[.bool g, .slice a l c]) x k
instance {x : Int} {k : Nat} : Last (phiZ x k) := ⟨fun _ _ _ hb ⟨g, a, l, c, e, _⟩ => have := Kp1.mk hb; ⟨g, a, l, c, e, inferInstance⟩⟩
theorem phiZ.fin {W : World} {g : Bool} {a : Option Addr} {l : Nat} {c : Nat} {x x' : Int} {kx : Nat} {k : Nat} [hx : CZ W (.agg #[.bool g, .slice a l c]) x kx] (ex : x = x') (mx : kx ≤ k) : phiZ x' k (.agg #[.bool g, .slice a l c]) W := ⟨g, a, l, c, rfl, hx.cast ex mx⟩
def phiLZB (x y z : Int) (v : Bool) (k : Nat) (u : Value) (W : World) : Prop := ∃ gx ax lx cx gy ay ly cy gz az lz cz, u = .tuple #[.agg #[.bool gx, .slice ax lx cx, .bool gy, .slice ay ly cy, .bool gz, .slice az lz cz], .bool v] ∧ CZ W (.agg #[.bool gx, .slice ax lx cx]) x k ∧ CZ W (.agg #[.bool gy, .slice ay ly cy]) y k ∧ CZ W (.agg #[.bool gz, .slice az lz cz]) z k
instance {x y z : Int} {v : Bool} {k : Nat} : Last (phiLZB x y z v k) := ⟨fun _ _ _ hb ⟨gx, ax, lx, cx, gy, ay, ly, cy, gz, az, lz, cz, e, _, _, _⟩ => have := Kp1.mk hb; ⟨gx, ax, lx, cx, gy, ay, ly, cy, gz, az, lz, cz, e, inferInstance, inferInstance, inferInstance⟩⟩
theorem phiLZB.fin {W : World} {gx : Bool} {ax : Option Addr} {lx : Nat} {cx : Nat} {gy : Bool} {ay : Option Addr} {ly : Nat} {cy : Nat} {gz : Bool} {az : Option Addr} {lz : Nat} {cz : Nat}  {v : Bool} {x x' : Int} {kx : Nat} {y y' : Int} {ky : Nat} {z z' : Int} {kz : Nat} {k : Nat} [hx : CZ W (.agg #[.bool gx, .slice ax lx cx]) x kx] [hy : CZ W (.agg #[.bool gy, .slice ay ly cy]) y ky] [hz : CZ W (.agg #[.bool gz, .slice az lz cz]) z kz] (ex : x = x') (mx : kx ≤ k) (ey : y = y') (my : ky ≤ k) (ez : z = z') (mz : kz ≤ k) : phiLZB x' y' z' v k (.tuple #[.agg #[.bool gx, .slice ax lx cx, .bool gy, .slice ay ly cy, .bool gz, .slice az lz cz], .bool v]) W := ⟨gx, ax, lx, cx, gy, ay, ly, cy, gz, az, lz, cz, rfl, hx.cast ex mx, hy.cast ey my, hz.cast ez mz⟩
def phiLZ (x y z : Int) (k : Nat) (u : Value) (W : World) : Prop := ∃ gx ax lx cx gy ay ly cy gz az lz cz, u = .agg #[.bool gx, .slice ax lx cx, .bool gy, .slice ay ly cy, .bool gz, .slice az lz cz] ∧ CZ W (.agg #[.bool gx, .slice ax lx cx]) x k ∧ CZ W (.agg #[.bool gy, .slice ay ly cy]) y k ∧ CZ W (.agg #[.bool gz, .slice az lz cz]) z k
instance {x y z : Int} {k : Nat} : Last (phiLZ x y z k) := ⟨fun _ _ _ hb ⟨gx, ax, lx, cx, gy, ay, ly, cy, gz, az, lz, cz, e, _, _, _⟩ => have := Kp1.mk hb; ⟨gx, ax, lx, cx, gy, ay, ly, cy, gz, az, lz, cz, e, inferInstance, inferInstance, inferInstance⟩⟩
theorem phiLZ.fin {W : World} {gx : Bool} {ax : Option Addr} {lx : Nat} {cx : Nat} {gy : Bool} {ay : Option Addr} {ly : Nat} {cy : Nat} {gz : Bool} {az : Option Addr} {lz : Nat} {cz : Nat} {x x' : Int} {kx : Nat} {y y' : Int} {ky : Nat} {z z' : Int} {kz : Nat} {k : Nat} [hx : CZ W (.agg #[.bool gx, .slice ax lx cx]) x kx] [hy : CZ W (.agg #[.bool gy, .slice ay ly cy]) y ky] [hz : CZ W (.agg #[.bool gz, .slice az lz cz]) z kz] (ex : x = x') (mx : kx ≤ k) (ey : y = y') (my : ky ≤ k) (ez : z = z') (mz : kz ≤ k) : phiLZ x' y' z' k (.agg #[.bool gx, .slice ax lx cx, .bool gy, .slice ay ly cy, .bool gz, .slice az lz cz]) W := ⟨gx, ax, lx, cx, gy, ay, ly, cy, gz, az, lz, cz, rfl, hx.cast ex mx, hy.cast ey my, hz.cast ez mz⟩
theorem refMakeNo {w : World} {g1 g2 g3 : Bool} {a1 a2 a3 : Option Addr} {l1 c1 l2 c2 l3 c3 k1 k2 k3 : Nat} {x y z : Int} [h1 : CZ w (.agg #[.bool g1, .slice a1 l1 c1]) x k1] [h2 : CZ w (.agg #[.bool g2, .slice a2 l2 c2]) y k2] [h3 : CZ w (.agg #[.bool g3, .slice a3 l3 c3]) z k3] (b : k1 ≤ 50000 ∧ k2 ≤ 50000 ∧ k3 ≤ 50000) (h0 : Hid (x = 0 ∧ y = 0)) :
    Calls Tryz.prog 10 #[.agg #[.bool g1, .slice a1 l1 c1], .agg #[.bool g2, .slice a2 l2 c2], .agg #[.bool g3, .slice a3 l3 c3]] w (LZBRet w 0 0 0 false 0) := by
  have n1 : CN w (.slice a1 l1 c1) x.natAbs k1 := ⟨(zz_of h1).2⟩
  have n2 : CN w (.slice a2 l2 c2) y.natAbs k2 := ⟨(zz_of h2).2⟩
  have hg : Nat.gcd x.natAbs y.natAbs = 0 := by rw [h0.out.1, h0.out.2]; rfl
  have HG := Lib.hid hg
  clear hg
  go_enter Tryz.func10, Tryz.ntmps10
  go_wp2_with (go_at_call 53; (with_reducible refine Calls.cNzero (commonC (m := x.natAbs) (n := y.natAbs) (by omega)) HG.out ?_); intros)
  refine ret_bt rfl Tryz.underlying37 rfl (by kernel_rfl) rfl rfl rfl ?_
  exact LZBRet.fin rfl (by omega) rfl (by omega) rfl (by omega)

theorem refThroughNo {w : World} {g1x g1y g2x g2y : Bool} {a1x aa1x a1y aa1y a2x aa2x a2y aa2y : Option Addr} {l1x c1x ll1x cc1x l1y c1y ll1y cc1y l2x c2x ll2x cc2x l2y c2y ll2y cc2y k1x k1y k2x k2y : Nat} {x1 y1 x2 y2 : Rat} [h1x : CQ w (.agg #[.bool g1x, .slice a1x l1x c1x, .slice aa1x ll1x cc1x]) x1 k1x] [h1y : CQ w (.agg #[.bool g1y, .slice a1y l1y c1y, .slice aa1y ll1y cc1y]) y1 k1y] [h2x : CQ w (.agg #[.bool g2x, .slice a2x l2x c2x, .slice aa2x ll2x cc2x]) x2 k2x] [h2y : CQ w (.agg #[.bool g2y, .slice a2y l2y c2y, .slice aa2y ll2y cc2y]) y2 k2y] (b : k1x ≤ 100 ∧ k1y ≤ 100 ∧ k2x ≤ 100 ∧ k2y ≤ 100) (h0 : Hid (thA y1 y2 = 0 ∧ x2 - x1 = 0)) :
    Calls Tryz.prog 18 #[.agg #[.bool g1x, .slice a1x l1x c1x, .slice aa1x ll1x cc1x, .bool g1y, .slice a1y l1y c1y, .slice aa1y ll1y cc1y], .agg #[.bool g2x, .slice a2x l2x c2x, .slice aa2x ll2x cc2x, .bool g2y, .slice a2y l2y c2y, .slice aa2y ll2y cc2y]] w (LZBRet w 0 0 0 false (10 * (max k1x k1y + max k2x k2y + 12) + 200)) := by
  go_enter Tryz.func18, Tryz.ntmps18
  go_upto_region 1 with fail
  go_cut [6] from 12 to 14 (fun s wx => ∃ (b6 : Nat) (gX : Bool) (aX : Option Addr) (lX cX : Nat) (aaX : Option Addr) (llX ccX : Nat) (gY : Bool) (aY : Option Addr) (lY cY : Nat) (aaY : Option Addr) (llY ccY : Nat), s = .pointer (some ⟨b6, 0, none⟩) ∧ Bx wx b6 48 [.bool gX, .slice aX lX cX, .slice aaX llX ccX, .bool gY, .slice aY lY cY, .slice aaY llY ccY] ∧ CQ wx (.agg #[.bool gX, .slice aX lX cX, .slice aaX llX ccX]) (x2 - x1) (max k1x k1y + max k2x k2y + 12) ∧ CQ wx (.agg #[.bool gY, .slice aY lY cY, .slice aaY llY ccY]) (y2 - y1) (max k1x k1y + max k2x k2y + 12) ∧ Bx wx w.heap.size 48 [.bool g1x, .slice a1x l1x c1x, .slice aa1x ll1x cc1x, .bool g1y, .slice a1y l1y c1y, .slice aa1y ll1y cc1y] ∧ Bx wx (w.heap.size + 1 + 1) 37 [.bool false, .slice none 0 0, .bool false, .slice none 0 0, .bool false, .slice none 0 0] ∧ CQ wx (.agg #[.bool g1x, .slice a1x l1x c1x, .slice aa1x ll1x cc1x]) x1 k1x ∧ CQ wx (.agg #[.bool g1y, .slice a1y l1y c1y, .slice aa1y ll1y cc1y]) y1 k1y ∧ Kp w wx)
  case first =>
    go_wp2_with (first
    | (go_at_call 60; (with_reducible refine Calls.cPQ (refPSubC (by omega)) ?_); intros))
    go_meet
    exact ⟨_, _, _, _, _, _, _, _, _, _, _, _, _, _, _, rfl, inferInstance, CQ.cast inferInstance rfl (by omega), CQ.cast inferInstance rfl (by omega), inferInstance, inferInstance, inferInstance, inferInstance, inferInstance⟩
  case rest =>
    obtain ⟨b6, gX, aX, lX, cX, aaX, llX, ccX, gY, aY, lY, cY, aaY, llY, ccY, rfl, i1, i2, i3, i4, i5, i6, i7, i8⟩ := hcut
    go_upto_region 2 with fail
    go_cut [7, 8] from 15 to 19 (fun p q wx => ∃ (b7 b8 : Nat) (gA : Bool) (aA : Option Addr) (lA cA : Nat) (aaA : Option Addr) (llA ccA : Nat), p = .pointer (some ⟨b7, 0, none⟩) ∧ q = .pointer (some ⟨b8, 0, none⟩) ∧ Bx wx b7 46 [.bool gA, .slice aA lA cA, .slice aaA llA ccA] ∧ Bx wx b8 46 [.bool gX, .slice aX lX cX, .slice aaX llX ccX] ∧ CQ wx (.agg #[.bool gA, .slice aA lA cA, .slice aaA llA ccA]) (thA y1 y2) (max k1x k1y + max k2x k2y + 12) ∧ Kp wc wx)
    case first =>
      refine rgn [] [] fun hHeld => ?_
      refine tk 0 hHeld ?_
      refine tk 1 hHeld ?_
      refine tk 3 hHeld ?_
      refine tk 4 hHeld ?_
      refine wpAnyT_inv [(2, 17), (5, 7), (6, 8)] (fun i => match i with | 2 => [] | 5 => [] | 6 => [] | _ => []) [phiQ (thA y1 y2) (max k1x k1y + max k2x k2y + 12), phiB wc 46 [.bool false, .slice none 0 0, .slice none 0 0], phiB wc 46 [.bool false, .slice none 0 0, .slice none 0 0]] [5, 6] 2 (by rfl) (by decide +kernel) (by decide) (by decide) (by kernel_rfl) ?_ (fun _ _ => Ex.below) hHeld ?_ ?_
      · intro i hi v W h
        simp only [List.mem_cons, List.not_mem_nil, or_false] at hi
        rcases hi with rfl | rfl
        all_goals exact phiB.old h
      · intro i hi f W hSw hbw hp
        have kw := Kp1.mk hbw
        have hSx := Ex1.mk hSw
        clear hHeld
        simp only [List.map_cons, List.map_nil, List.mem_cons, List.not_mem_nil, or_false] at hi
        rcases hi with rfl | rfl | rfl
        · refine ⟨_, by simp; rfl, fun K' hK => ?_⟩
          clear hp
          simp only [putAll, Act.put, List.setIfInBounds_toArray, List.set_cons_zero, List.set_cons_succ] at hK ⊢
          generalize f 2 = v2 at *
          generalize f 5 = v5 at *
          generalize f 6 = v6 at *
          go_simp
          (with_reducible refine Calls.cQ (numOppC) ?_); intros
          refine hK.out _ _ _ rfl (inferInstance : Kp W _).out ?_ ?_
          · exact phiQ.fin rfl (by omega)
          · exact fun h => absurd h (by decide)
        · refine ⟨_, by simp; rfl, fun K' hK => ?_⟩
          clear hp
          simp only [putAll, Act.put, List.setIfInBounds_toArray, List.set_cons_zero, List.set_cons_succ] at hK ⊢
          generalize f 2 = v2 at *
          generalize f 5 = v5 at *
          generalize f 6 = v6 at *
          go_simp
          refine hK.out _ _ _ rfl (inferInstance : Kp W _).out ?_ ?_
          · exact phiB.fin
          · exact fun _ => ⟨_, rfl, Nat.le_refl _⟩
        · refine ⟨_, by simp; rfl, fun K' hK => ?_⟩
          clear hp
          simp only [putAll, Act.put, List.setIfInBounds_toArray, List.set_cons_zero, List.set_cons_succ] at hK ⊢
          generalize f 2 = v2 at *
          generalize f 5 = v5 at *
          generalize f 6 = v6 at *
          go_simp
          refine hK.out _ _ _ rfl (inferInstance : Kp W _).out ?_ ?_
          · exact phiB.fin
          · exact fun _ => ⟨_, rfl, Nat.le_refl _⟩
      · intro f W hSw hbw hf hne
        have kw := Kp1.mk hbw
        have hSx := Ex1.mk hSw
        clear hHeld
        have h2 : phiQ (thA y1 y2) (max k1x k1y + max k2x k2y + 12) (f 2) W := hf 2 (by decide)
        have h5 : phiB wc 46 [.bool false, .slice none 0 0, .slice none 0 0] (f 5) W := hf 5 (by decide)
        have h6 : phiB wc 46 [.bool false, .slice none 0 0, .slice none 0 0] (f 6) W := hf 6 (by decide)
        have n5_6 := hne 5 6 (by decide) (by decide) (by decide) (by decide) (by decide)
        clear hf hne
        simp only [putAll, lset, List.map_cons, List.map_nil, Act.put, List.setIfInBounds_toArray, List.set_cons_zero, List.set_cons_succ]
        generalize f 2 = v2 at *
        generalize f 5 = v5 at *
        generalize f 6 = v6 at *
        obtain ⟨g2, a2, l2, c2, aa2, ll2, cc2, rfl, i2⟩ := h2
        obtain ⟨b5, rfl, i5, j5, k5⟩ := h5
        obtain ⟨b6, rfl, i6, j6, k6⟩ := h6
        have nw5 := Nw.mk j5.out
        have nw6 := Nw.mk j6.out
        have n5_6 := ptr_ne n5_6
        have n6_5 : NeN b6 b5 := ⟨fun e => n5_6.out e.symm⟩
        have hHeld := hSw
        refine st 7 fun K hK => ?_
        go_simp
        refine hd hK ?_
        clear hHeld hK K
        intro hHeld
        refine st 8 fun K hK => ?_
        go_simp
        refine hd hK ?_
        clear hHeld hK K
        intro hHeld
        refine dn ?_
        clear hHeld
        go_wp2_with fail
        go_meet
        exact ⟨_, _, _, _, _, _, _, _, _, rfl, rfl, inferInstance, inferInstance, inferInstance, inferInstance⟩
    case rest =>
      obtain ⟨b7, b8, gA, aA, lA, cA, aaA, llA, ccA, rfl, rfl, m1, m2, m3, ⟨m4⟩⟩ := hcut
      have m5 := Kp1.mk m4
      have m6 : Kp w wc := inferInstance
      go_upto_region 3 with fail
      go_cut [9] from 20 to 29 (fun p wx => ∃ (b9 : Nat) (gC : Bool) (aC : Option Addr) (lC cC : Nat) (aaC : Option Addr) (llC ccC : Nat), p = .pointer (some ⟨b9, 0, none⟩) ∧ Bx wx b9 46 [.bool gC, .slice aC lC cC, .slice aaC llC ccC] ∧ CQ wx (.agg #[.bool gC, .slice aC lC cC, .slice aaC llC ccC]) (thC x1 y1 x2 y2) (4 * (max k1x k1y + max k2x k2y + 12) + 40) ∧ Kp wc wx)
      case first =>
        refine rgn [] [] fun hHeld => ?_
        refine tk 0 hHeld ?_
        refine tk 1 hHeld ?_
        refine tk 2 hHeld ?_
        refine tk 4 hHeld ?_
        refine tk 5 hHeld ?_
        refine tk 6 hHeld ?_
        refine wpAnyT_inv [(3, 23), (7, 27), (8, 28), (9, 29), (10, 9)] (fun i => match i with | 3 => [] | 7 => [3] | 8 => [3, 7] | 9 => [8] | 10 => [] | _ => []) [phiQ (thA y1 y2 * x1) ((max k1x k1y + max k2x k2y + 12) + k1x + 5), phiQ ((x2 - x1) * y1) ((max k1x k1y + max k2x k2y + 12) + k1y + 5), phiQ (thA y1 y2 * x1 + (x2 - x1) * y1) (2 * (max k1x k1y + max k2x k2y + 12) + k1x + k1y + 15), phiQ (thC x1 y1 x2 y2) (4 * (max k1x k1y + max k2x k2y + 12) + 40), phiB wc 46 [.bool false, .slice none 0 0, .slice none 0 0]] [10] 1 (by rfl) (by decide +kernel) (by decide) (by decide) (by kernel_rfl) ?_ (fun _ _ => Ex.below) hHeld ?_ ?_
        · intro i hi v W h
          simp only [List.mem_cons, List.not_mem_nil, or_false] at hi
          rcases hi with rfl
          all_goals exact phiB.old h
        · intro i hi f W hSw hbw hp
          have kw := Kp1.mk hbw
          have hSx := Ex1.mk hSw
          clear hHeld
          simp only [List.map_cons, List.map_nil, List.mem_cons, List.not_mem_nil, or_false] at hi
          rcases hi with rfl | rfl | rfl | rfl | rfl
          · refine ⟨_, by simp; rfl, fun K' hK => ?_⟩
            clear hp
            simp only [putAll, Act.put, List.setIfInBounds_toArray, List.set_cons_zero, List.set_cons_succ] at hK ⊢
            generalize f 3 = v3 at *
            generalize f 7 = v7 at *
            generalize f 8 = v8 at *
            generalize f 9 = v9 at *
            generalize f 10 = v10 at *
            go_simp
            (with_reducible refine Calls.cQ (numTimesC (by omega)) ?_); intros
            refine hK.out _ _ _ rfl (inferInstance : Kp W _).out ?_ ?_
            · exact phiQ.fin rfl (by omega)
            · exact fun h => absurd h (by decide)
          · have h3 : phiQ (thA y1 y2 * x1) ((max k1x k1y + max k2x k2y + 12) + k1x + 5) (f 3) W := hp 3 (by decide)
            refine ⟨_, by simp; rfl, fun K' hK => ?_⟩
            clear hp
            simp only [putAll, Act.put, List.setIfInBounds_toArray, List.set_cons_zero, List.set_cons_succ] at hK ⊢
            generalize f 3 = v3 at *
            generalize f 7 = v7 at *
            generalize f 8 = v8 at *
            generalize f 9 = v9 at *
            generalize f 10 = v10 at *
            obtain ⟨g3, a3, l3, c3, aa3, ll3, cc3, rfl, i3⟩ := h3
            go_simp
            (with_reducible refine Calls.cQ (numTimesC (by omega)) ?_); intros
            refine hK.out _ _ _ rfl (inferInstance : Kp W _).out ?_ ?_
            · exact phiQ.fin rfl (by omega)
            · exact fun h => absurd h (by decide)
          · have h3 : phiQ (thA y1 y2 * x1) ((max k1x k1y + max k2x k2y + 12) + k1x + 5) (f 3) W := hp 3 (by decide)
            have h7 : phiQ ((x2 - x1) * y1) ((max k1x k1y + max k2x k2y + 12) + k1y + 5) (f 7) W := hp 7 (by decide)
            refine ⟨_, by simp; rfl, fun K' hK => ?_⟩
            clear hp
            simp only [putAll, Act.put, List.setIfInBounds_toArray, List.set_cons_zero, List.set_cons_succ] at hK ⊢
            generalize f 3 = v3 at *
            generalize f 7 = v7 at *
            generalize f 8 = v8 at *
            generalize f 9 = v9 at *
            generalize f 10 = v10 at *
            obtain ⟨g3, a3, l3, c3, aa3, ll3, cc3, rfl, i3⟩ := h3
            obtain ⟨g7, a7, l7, c7, aa7, ll7, cc7, rfl, i7⟩ := h7
            go_simp
            (with_reducible refine Calls.cQ (numPlusC (by omega)) ?_); intros
            refine hK.out _ _ _ rfl (inferInstance : Kp W _).out ?_ ?_
            · exact phiQ.fin rfl (by omega)
            · exact fun h => absurd h (by decide)
          · have h8 : phiQ (thA y1 y2 * x1 + (x2 - x1) * y1) (2 * (max k1x k1y + max k2x k2y + 12) + k1x + k1y + 15) (f 8) W := hp 8 (by decide)
            refine ⟨_, by simp; rfl, fun K' hK => ?_⟩
            clear hp
            simp only [putAll, Act.put, List.setIfInBounds_toArray, List.set_cons_zero, List.set_cons_succ] at hK ⊢
            generalize f 3 = v3 at *
            generalize f 7 = v7 at *
            generalize f 8 = v8 at *
            generalize f 9 = v9 at *
            generalize f 10 = v10 at *
            obtain ⟨g8, a8, l8, c8, aa8, ll8, cc8, rfl, i8⟩ := h8
            go_simp
            (with_reducible refine Calls.cQ (numOppC) ?_); intros
            refine hK.out _ _ _ rfl (inferInstance : Kp W _).out ?_ ?_
            · exact phiQ.fin rfl (by omega)
            · exact fun h => absurd h (by decide)
          · refine ⟨_, by simp; rfl, fun K' hK => ?_⟩
            clear hp
            simp only [putAll, Act.put, List.setIfInBounds_toArray, List.set_cons_zero, List.set_cons_succ] at hK ⊢
            generalize f 3 = v3 at *
            generalize f 7 = v7 at *
            generalize f 8 = v8 at *
            generalize f 9 = v9 at *
            generalize f 10 = v10 at *
            go_simp
            refine hK.out _ _ _ rfl (inferInstance : Kp W _).out ?_ ?_
            · exact phiB.fin
            · exact fun _ => ⟨_, rfl, Nat.le_refl _⟩
        · intro f W hSw hbw hf hne
          have kw := Kp1.mk hbw
          have hSx := Ex1.mk hSw
          clear hHeld
          have h3 : phiQ (thA y1 y2 * x1) ((max k1x k1y + max k2x k2y + 12) + k1x + 5) (f 3) W := hf 3 (by decide)
          have h7 : phiQ ((x2 - x1) * y1) ((max k1x k1y + max k2x k2y + 12) + k1y + 5) (f 7) W := hf 7 (by decide)
          have h8 : phiQ (thA y1 y2 * x1 + (x2 - x1) * y1) (2 * (max k1x k1y + max k2x k2y + 12) + k1x + k1y + 15) (f 8) W := hf 8 (by decide)
          have h9 : phiQ (thC x1 y1 x2 y2) (4 * (max k1x k1y + max k2x k2y + 12) + 40) (f 9) W := hf 9 (by decide)
          have h10 : phiB wc 46 [.bool false, .slice none 0 0, .slice none 0 0] (f 10) W := hf 10 (by decide)
          clear hf hne
          simp only [putAll, lset, List.map_cons, List.map_nil, Act.put, List.setIfInBounds_toArray, List.set_cons_zero, List.set_cons_succ]
          generalize f 3 = v3 at *
          generalize f 7 = v7 at *
          generalize f 8 = v8 at *
          generalize f 9 = v9 at *
          generalize f 10 = v10 at *
          obtain ⟨g3, a3, l3, c3, aa3, ll3, cc3, rfl, i3⟩ := h3
          obtain ⟨g7, a7, l7, c7, aa7, ll7, cc7, rfl, i7⟩ := h7
          obtain ⟨g8, a8, l8, c8, aa8, ll8, cc8, rfl, i8⟩ := h8
          obtain ⟨g9, a9, l9, c9, aa9, ll9, cc9, rfl, i9⟩ := h9
          obtain ⟨b10, rfl, i10, j10, k10⟩ := h10
          have nw10 := Nw.mk j10.out
          have hHeld := hSw
          refine st 11 fun K hK => ?_
          go_simp
          refine hd hK ?_
          clear hHeld hK K
          intro hHeld
          refine dn ?_
          clear hHeld
          go_wp2_with fail
          go_meet
          exact ⟨_, _, _, _, _, _, _, _, rfl, inferInstance, inferInstance, inferInstance⟩
      case rest =>
        obtain ⟨b9, gC, aC, lC, cC, aaC, llC, ccC, rfl, r1, r2, ⟨r3⟩⟩ := hcut
        have r5 := Kp1.mk r3
        have r6 : Kp w wc := inferInstance
        have hfld : ∀ (x0 x1 x2 : Value) (W : World), (Instr.field 46 (.agg #[x0, x1, x2]) 0).run Tryz.prog W = .ok (.agg #[x0, x1]) W := fun _ _ _ _ => by kernel_rfl
        go_wp2_with fail
        refine rgn [] [] fun hHeld => ?_
        refine tk 0 hHeld ?_
        refine tk 2 hHeld ?_
        refine tk 5 hHeld ?_
        refine st 1 fun K hK => ?_
        go_simp
        (with_reducible refine Calls.cN (numDenC) ?_); intros
        refine hd hK ?_
        clear hHeld hK K
        intro hHeld
        refine st 3 fun K hK => ?_
        go_simp
        (with_reducible refine Calls.cN (numDenC) ?_); intros
        refine hd hK ?_
        clear hHeld hK K
        intro hHeld
        refine st 4 fun K hK => ?_
        go_simp
        (with_reducible refine Calls.cN (numProductC (by omega)) ?_); intros
        refine hd hK ?_
        clear hHeld hK K
        intro hHeld
        refine st 6 fun K hK => ?_
        go_simp
        (with_reducible refine Calls.cN (numDenC) ?_); intros
        refine hd hK ?_
        clear hHeld hK K
        intro hHeld
        refine st 7 fun K hK => ?_
        go_simp
        (with_reducible refine Calls.cN (numProductC (by omega)) ?_); intros
        refine hd hK ?_
        clear hHeld hK K
        intro hHeld
        refine tk 8 hHeld ?_
        refine dn ?_
        clear hHeld
        have HNE : Hid ((thA y1 y2 * ((sgn false ((thA y1 y2).den * (x2 - x1).den * (thC x1 y1 x2 y2).den) : Int) : Rat)).num = 0 ∧ ((x2 - x1) * ((sgn false ((thA y1 y2).den * (x2 - x1).den * (thC x1 y1 x2 y2).den) : Int) : Rat)).num = 0) := by
          refine Lib.hid ⟨?_, ?_⟩
          · rw [h0.out.1, Rat.zero_mul]; rfl
          · rw [h0.out.2, Rat.zero_mul]; rfl
        go_wp2_with (first
    | (go_at_call 55; (with_reducible refine Calls.cSg (makeC) ?_); intros))
        refine rgn [] [15, 16] fun hHeld => ?_
        refine tk 0 hHeld ?_
        refine tk 1 hHeld ?_
        refine tk 4 hHeld ?_
        refine tk 5 hHeld ?_
        refine tk 8 hHeld ?_
        refine tk 9 hHeld ?_
        refine st 2 fun K hK => ?_
        go_simp
        (go_at_call 62; (with_reducible refine Calls.cQz (numTimesC (by omega)) ?_); intros)
        refine hd hK ?_
        clear hHeld hK K
        intro hHeld
        refine tk 3 hHeld ?_
        refine st 6 fun K hK => ?_
        go_simp
        (go_at_call 62; (with_reducible refine Calls.cQz (numTimesC (by omega)) ?_); intros)
        refine hd hK ?_
        clear hHeld hK K
        intro hHeld
        refine tk 7 hHeld ?_
        refine st 10 fun K hK => ?_
        go_simp
        (go_at_call 62; (with_reducible refine Calls.cQz (numTimesC (by omega)) ?_); intros)
        refine hd hK ?_
        clear hHeld hK K
        intro hHeld
        refine tk 11 hHeld ?_
        refine st 12 fun K hK => ?_
        go_simp
        (with_reducible refine Calls.cLZB (refMakeNo (by omega) HNE) ?_); intros
        refine hd hK ?_
        clear hHeld hK K
        intro hHeld
        refine tk 13 hHeld ?_
        refine tk 14 hHeld ?_
        refine st 15 fun K hK => ?_
        go_simp
        refine hdT hK ?_
        clear hK K
        refine tk0 16 ?_
        refine dn ?_
        clear hHeld
        go_wp2_with fail
        refine ret_bt rfl Tryz.underlying37 rfl (by kernel_rfl) rfl rfl rfl ?_
        exact LZBRet.fin rfl (by omega) rfl (by omega) rfl (by omega)

theorem lineNewOk {w : World} {g1 g2 g3 : Bool} {a1 a2 a3 : Option Addr} {l1 c1 l2 c2 l3 c3 k1 k2 k3 : Nat} {x y z : Int} [h1 : CI w (.agg #[.bool g1, .slice a1 l1 c1]) x k1] [h2 : CI w (.agg #[.bool g2, .slice a2 l2 c2]) y k2] [h3 : CI w (.agg #[.bool g3, .slice a3 l3 c3]) z k3] (b : k1 ≤ 5000 ∧ k2 ≤ 5000 ∧ k3 ≤ 5000) (h0 : Hid (¬ (((x : Int) : Rat) = 0 ∧ ((y : Int) : Rat) = 0))) :
    Calls Tryz.prog 9 #[.agg #[.bool g1, .slice a1 l1 c1], .agg #[.bool g2, .slice a2 l2 c2], .agg #[.bool g3, .slice a3 l3 c3]] w (LZBRet w (lnK ((x : Int) : Rat) ((x : Int) : Rat) ((y : Int) : Rat) ((z : Int) : Rat)).num (lnK ((y : Int) : Rat) ((x : Int) : Rat) ((y : Int) : Rat) ((z : Int) : Rat)).num (lnK ((z : Int) : Rat) ((x : Int) : Rat) ((y : Int) : Rat) ((z : Int) : Rat)).num true (2 * (k1 + k2 + k3) + 100)) := by
  go_enter Tryz.func9, Tryz.ntmps9
  go_wp2_with fail
  refine rgn [w.heap.size + 1 + 1 + 1] [] fun hHeld => ?_
  refine tk 0 hHeld ?_
  refine tk 2 hHeld ?_
  refine tk 4 hHeld ?_
  refine st 1 fun K hK => ?_
  go_simp
  (with_reducible refine Calls.cF (wholeC (by omega)) ?_); intros
  refine hd hK ?_
  clear hHeld hK K
  intro hHeld
  refine st 3 fun K hK => ?_
  go_simp
  (with_reducible refine Calls.cF (wholeC (by omega)) ?_); intros
  refine hd hK ?_
  clear hHeld hK K
  intro hHeld
  refine st 5 fun K hK => ?_
  go_simp
  (with_reducible refine Calls.cF (wholeC (by omega)) ?_); intros
  refine hd hK ?_
  clear hHeld hK K
  intro hHeld
  refine st 6 fun K hK => ?_
  go_simp
  (with_reducible refine Calls.cLFB (makeOk (by omega) h0) ?_); intros
  refine hd hK ?_
  clear hHeld hK K
  intro hHeld
  refine tk 7 hHeld ?_
  refine tk 8 hHeld ?_
  refine st 9 fun K hK => ?_
  go_simp
  (with_reducible refine Calls.cLZB (writeOk (by omega)) ?_); intros
  refine hd hK ?_
  clear hHeld hK K
  intro hHeld
  refine tk 10 hHeld ?_
  refine tk 11 hHeld ?_
  refine st 12 fun K hK => ?_
  go_simp
  refine hd hK ?_
  clear hHeld hK K
  intro hHeld
  refine tk 13 hHeld ?_
  refine dn ?_
  clear hHeld
  go_wp2_with fail
  refine ret_bt rfl Tryz.underlying30 rfl (by kernel_rfl) rfl rfl rfl ?_
  exact LZBRet.fin rfl (by omega) rfl (by omega) rfl (by omega)

theorem lineNewNo {w : World} {g1 g2 g3 : Bool} {a1 a2 a3 : Option Addr} {l1 c1 l2 c2 l3 c3 k1 k2 k3 : Nat} {x y z : Int} [h1 : CI w (.agg #[.bool g1, .slice a1 l1 c1]) x k1] [h2 : CI w (.agg #[.bool g2, .slice a2 l2 c2]) y k2] [h3 : CI w (.agg #[.bool g3, .slice a3 l3 c3]) z k3] (b : k1 ≤ 5000 ∧ k2 ≤ 5000 ∧ k3 ≤ 5000) (h0 : Hid ((((x : Int) : Rat) = 0 ∧ ((y : Int) : Rat) = 0))) :
    Calls Tryz.prog 9 #[.agg #[.bool g1, .slice a1 l1 c1], .agg #[.bool g2, .slice a2 l2 c2], .agg #[.bool g3, .slice a3 l3 c3]] w (LZBRet w 0 0 0 false (2 * (k1 + k2 + k3) + 100)) := by
  go_enter Tryz.func9, Tryz.ntmps9
  go_wp2_with fail
  refine rgn [w.heap.size + 1 + 1 + 1] [] fun hHeld => ?_
  refine tk 0 hHeld ?_
  refine tk 2 hHeld ?_
  refine tk 4 hHeld ?_
  refine st 1 fun K hK => ?_
  go_simp
  (with_reducible refine Calls.cF (wholeC (by omega)) ?_); intros
  refine hd hK ?_
  clear hHeld hK K
  intro hHeld
  refine st 3 fun K hK => ?_
  go_simp
  (with_reducible refine Calls.cF (wholeC (by omega)) ?_); intros
  refine hd hK ?_
  clear hHeld hK K
  intro hHeld
  refine st 5 fun K hK => ?_
  go_simp
  (with_reducible refine Calls.cF (wholeC (by omega)) ?_); intros
  refine hd hK ?_
  clear hHeld hK K
  intro hHeld
  refine st 6 fun K hK => ?_
  go_simp
  (with_reducible refine Calls.cLFB (makeNo h0) ?_); intros
  refine hd hK ?_
  clear hHeld hK K
  intro hHeld
  refine tk 7 hHeld ?_
  refine tk 8 hHeld ?_
  refine st 9 fun K hK => ?_
  go_simp
  (with_reducible refine Calls.cLZB (writeNo (by omega)) ?_); intros
  refine hd hK ?_
  clear hHeld hK K
  intro hHeld
  refine tk 10 hHeld ?_
  refine tk 11 hHeld ?_
  refine st 12 fun K hK => ?_
  go_simp
  refine hd hK ?_
  clear hHeld hK K
  intro hHeld
  refine tk 13 hHeld ?_
  refine dn ?_
  clear hHeld
  go_wp2_with fail
  refine ret_bt rfl Tryz.underlying30 rfl (by kernel_rfl) rfl rfl rfl ?_
  exact LZBRet.fin rfl (by omega) rfl (by omega) rfl (by omega)

theorem sameLC {w : World} {g1x g1y g1z g2x g2y g2z : Bool} {a1x a1y a1z a2x a2y a2z : Option Addr} {l1x c1x l1y c1y l1z c1z l2x c2x l2y c2y l2z c2z k1x k1y k1z k2x k2y k2z : Nat} {la lb lc ma mb mc : Int} [h1x : CZ w (.agg #[.bool g1x, .slice a1x l1x c1x]) la k1x] [h1y : CZ w (.agg #[.bool g1y, .slice a1y l1y c1y]) lb k1y] [h1z : CZ w (.agg #[.bool g1z, .slice a1z l1z c1z]) lc k1z] [h2x : CZ w (.agg #[.bool g2x, .slice a2x l2x c2x]) ma k2x] [h2y : CZ w (.agg #[.bool g2y, .slice a2y l2y c2y]) mb k2y] [h2z : CZ w (.agg #[.bool g2z, .slice a2z l2z c2z]) mc k2z] (ea : la = ma) (eb : lb = mb) (ec : lc = mc) :
    Calls Tryz.prog 13 #[.agg #[.bool g1x, .slice a1x l1x c1x, .bool g1y, .slice a1y l1y c1y, .bool g1z, .slice a1z l1z c1z], .agg #[.bool g2x, .slice a2x l2x c2x, .bool g2y, .slice a2y l2y c2y, .bool g2z, .slice a2z l2z c2z]] w (fun e w' => e = .returned (.bool true) ∧ Below w.heap.size w w') := by
  subst ea eb ec
  go_enter Tryz.func13, Tryz.ntmps13
  go_wp2_with (first
    | (go_at_call 57; (with_reducible refine Calls.cE (sameIC rfl) ?_); intros))
  go_ret
  exact E.fin rfl

theorem same05C {w : World} {g1x g1y g1z g2x g2y g2z : Bool} {a1x a1y a1z a2x a2y a2z : Option Addr} {l1x c1x l1y c1y l1z c1z l2x c2x l2y c2y l2z c2z k1x k1y k1z k2x k2y k2z : Nat} {la lb lc ma mb mc : Int} [h1x : CZ w (.agg #[.bool g1x, .slice a1x l1x c1x]) la k1x] [h1y : CZ w (.agg #[.bool g1y, .slice a1y l1y c1y]) lb k1y] [h1z : CZ w (.agg #[.bool g1z, .slice a1z l1z c1z]) lc k1z] [h2x : CZ w (.agg #[.bool g2x, .slice a2x l2x c2x]) ma k2x] [h2y : CZ w (.agg #[.bool g2y, .slice a2y l2y c2y]) mb k2y] [h2z : CZ w (.agg #[.bool g2z, .slice a2z l2z c2z]) mc k2z] (b : k1x ≤ 200000 ∧ k1y ≤ 200000 ∧ k1z ≤ 200000 ∧ k2x ≤ 200000 ∧ k2y ≤ 200000 ∧ k2z ≤ 200000) (ea : la = ma) (eb : lb = mb) (ec : lc = mc) :
    Calls Tryz.prog 12 #[.agg #[.bool g1x, .slice a1x l1x c1x, .bool g1y, .slice a1y l1y c1y, .bool g1z, .slice a1z l1z c1z], .agg #[.bool g2x, .slice a2x l2x c2x, .bool g2y, .slice a2y l2y c2y, .bool g2z, .slice a2z l2z c2z]] w (fun e w' => e = .returned (.bool true) ∧ Below w.heap.size w w') := by
  subst ea eb ec
  go_enter Tryz.func12, Tryz.ntmps12
  go_wp2_with fail
  refine rgn [] [] fun hHeld => ?_
  refine tk 0 hHeld ?_
  refine tk 1 hHeld ?_
  refine st 2 fun K hK => ?_
  go_simp
  (with_reducible refine Calls.cLZ (toLC (by omega)) ?_); intros
  refine hd hK ?_
  clear hHeld hK K
  intro hHeld
  refine st 3 fun K hK => ?_
  go_simp
  (with_reducible refine Calls.cE (sameLC rfl rfl rfl) ?_); intros
  refine hd hK ?_
  clear hHeld hK K
  intro hHeld
  refine tk 4 hHeld ?_
  refine dn ?_
  clear hHeld
  go_wp2_with fail
  go_ret
  exact E.fin rfl

end Go.Proofs.YtfdgglddldlpjaaGreat

/- The walk of the law LineMakes: it returns true and changes nothing that was there. printed by a small program (mkln14.py). -/
namespace Go.Proofs.YtfdgglddldlpjaaGreat
open Go.RowKit
set_option maxRecDepth 100000
set_option maxHeartbeats 40000000
set_option synthInstance.maxSize 100000
set_option synthInstance.maxHeartbeats 1000000

set_option linter.unusedSimpArgs false
theorem lineMakes_walk (g0 : Bool) (a0 : Option Addr) (l0 c0 : Nat) (z0 : List Int) (g1 : Bool) (a1 : Option Addr) (l1 c1 : Nat) (z1 : List Int) (g2 : Bool) (a2 : Option Addr) (l2 c2 : Nat) (z2 : List Int) (a3 : Option Addr) (len3 cap3 : Nat) (z3 : List Int) (w : World) (w0 : IsRow .u32 w a0 l0 c0 z0) (w1 : IsRow .u32 w a1 l1 c1 z1) (w2 : IsRow .u32 w a2 l2 c2 z2) (w3 : IsRow .i64 w a3 len3 cap3 z3) :
    Calls Tryz.prog 3 #[.agg #[.bool g0, .slice a0 l0 c0], .agg #[.bool g1, .slice a1 l1 c1], .agg #[.bool g2, .slice a2 l2 c2], .slice a3 len3 cap3] w fun e w' => e = .returned (.bool true) ∧ Below w.heap.size w w' := by
  obtain ⟨D0, e0, i0⟩ := rl_row w0
  obtain ⟨D1, e1, i1⟩ := rl_row w1
  obtain ⟨D2, e2, i2⟩ := rl_row w2
  clear w0 w1 w2
  obtain ⟨v, hv⟩ : ∃ v, decide (l0 ≤ 5 ∧ l1 ≤ 5 ∧ l2 ≤ 5) = v := ⟨_, rfl⟩
  have HV := Lib.hid hv
  cases v with
  | false =>
    clear hv e0 e1 e2
    go_enter Tryz.func3, Tryz.ntmps3
    go_wp2_with (first | (go_at_call 7; (with_reducible refine Calls.cE (small3C HV) ?_); intros) | (go_at_call 8; (with_reducible refine Calls.cE (known05C) ?_); intros))
    go_ret
    exact E.fin rfl
  | true =>
    obtain ⟨s0, s1, s2⟩ := of_decide_eq_true hv
    clear hv
    obtain ⟨x, j0⟩ : ∃ x, CI w (.agg #[.bool g0, .slice a0 l0 c0]) x 5 := ⟨_, CI.cast (CI.sg (n := val D0) (k := D0.length)) rfl (by omega)⟩
    obtain ⟨y, j1⟩ : ∃ y, CI w (.agg #[.bool g1, .slice a1 l1 c1]) y 5 := ⟨_, CI.cast (CI.sg (n := val D1) (k := D1.length)) rfl (by omega)⟩
    obtain ⟨z, j2⟩ : ∃ z, CI w (.agg #[.bool g2, .slice a2 l2 c2]) z 5 := ⟨_, CI.cast (CI.sg (n := val D2) (k := D2.length)) rfl (by omega)⟩
    clear e0 e1 e2 s0 s1 s2 i0 i1 i2
    by_cases h0 : x = 0 ∧ y = 0
    · have H0 := Lib.hid h0
      have H0' : Hid ((x : Rat) = 0 ∧ (y : Rat) = 0) := by rw [h0.1, h0.2]; exact ⟨rfl, rfl⟩
      clear h0
      go_enter Tryz.func3, Tryz.ntmps3
      go_wp2_with (first | (go_at_call 7; (with_reducible refine Calls.cE (small3C HV) ?_); intros) | (go_at_call 9; (with_reducible refine Calls.cLZB (lineNewNo (by omega) H0') ?_); intro Wn _ gu au lu cu gv av lv cv gw aw lw cw _ _ _))
      go_upto_region 4 with fail
      go_cut [11, 12] from 33 to 42 (fun t u wx => ∃ (b : Nat) (gx : Bool) (ax : Option Addr) (lx cx : Nat) (gy : Bool) (ay : Option Addr) (ly cy : Nat) (gz : Bool) (az : Option Addr) (lz cz : Nat), t = .pointer (some ⟨b, 0, none⟩) ∧ u = .bool false ∧ Bx wx b 37 [.bool gx, .slice ax lx cx, .bool gy, .slice ay ly cy, .bool gz, .slice az lz cz] ∧ CZ wx (.agg #[.bool gx, .slice ax lx cx]) (0) 20 ∧ CZ wx (.agg #[.bool gy, .slice ay ly cy]) (0) 20 ∧ CZ wx (.agg #[.bool gz, .slice az lz cz]) (0) 20 ∧ Kp (Wn.alloc (.cells #[.bool gu, .slice au lu cu, .bool gv, .slice av lv cv, .bool gw, .slice aw lw cw] 30)) wx ∧ Ge (Wn.alloc (.cells #[.bool gu, .slice au lu cu, .bool gv, .slice av lv cv, .bool gw, .slice aw lw cw] 30)) b)
      case first =>
        refine rgn [] [] fun hHeld => ?_
        refine tk 0 hHeld ?_
        refine tk 2 hHeld ?_
        refine tk 4 hHeld ?_
        refine wpAnyT_ready (rs := [1, 10]) (by kernel_rfl) (by simp) ?_
        refine AllT.cons (by simp; rfl) (fun K hK => ?_) (AllT.cons (by simp; rfl) (fun K hK => ?_) AllT.nil)
        go_simp
        (with_reducible refine Calls.cZ (refIC (by omega)) ?_); intros
        refine hd hK ?_
        clear hHeld hK K
        intro hHeld
        refine wpAnyT_ready (rs := [3, 10]) (by kernel_rfl) (by simp) ?_
        refine AllT.cons (by simp; rfl) (fun K hK => ?_) (AllT.cons (by simp; rfl) (fun K hK => ?_) AllT.nil)
        go_simp
        (with_reducible refine Calls.cZ (refIC (by omega)) ?_); intros
        refine hd hK ?_
        clear hHeld hK K
        intro hHeld
        refine wpAnyT_ready (rs := [5, 10]) (by kernel_rfl) (by simp) ?_
        refine AllT.cons (by simp; rfl) (fun K hK => ?_) (AllT.cons (by simp; rfl) (fun K hK => ?_) AllT.nil)
        go_simp
        (with_reducible refine Calls.cZ (refIC (by omega)) ?_); intros
        refine hd hK ?_
        clear hHeld hK K
        intro hHeld
        refine wpAnyT_ready (rs := [6, 10]) (by kernel_rfl) (by simp) ?_
        refine AllT.cons (by simp; rfl) (fun K hK => ?_) (AllT.cons (by simp; rfl) (fun K hK => ?_) AllT.nil)
        go_simp
        (with_reducible refine Calls.cLZB (refMakeNo (by omega) H0) ?_); intros
        refine hd hK ?_
        clear hHeld hK K
        intro hHeld
        refine tk 7 hHeld ?_
        refine tk 8 hHeld ?_
        refine tk 9 hHeld ?_
        refine st 10 fun K hK => ?_
        go_simp
        refine hd hK ?_
        clear hHeld hK K
        intro hHeld
        refine st 11 fun K hK => ?_
        go_simp
        refine hd hK ?_
        clear hHeld hK K
        intro hHeld
        refine tk 12 hHeld ?_
        refine dn ?_
        clear hHeld
        go_wp2_with fail
        go_meet
        exact ⟨_, _, _, _, _, _, _, _, _, _, _, _, _, rfl, rfl, inferInstance, CZ.cast inferInstance rfl (by omega), CZ.cast inferInstance rfl (by omega), CZ.cast inferInstance rfl (by omega), inferInstance, inferInstance⟩
        go_simp
        refine hd hK ?_
        clear hHeld hK K
        intro hHeld
        refine st 6 fun K hK => ?_
        go_simp
        (with_reducible refine Calls.cLZB (refMakeNo (by omega) H0) ?_); intros
        refine hd hK ?_
        clear hHeld hK K
        intro hHeld
        refine tk 7 hHeld ?_
        refine tk 8 hHeld ?_
        refine tk 9 hHeld ?_
        refine st 11 fun K hK => ?_
        go_simp
        refine hd hK ?_
        clear hHeld hK K
        intro hHeld
        refine tk 12 hHeld ?_
        refine dn ?_
        clear hHeld
        go_wp2_with fail
        go_meet
        exact ⟨_, _, _, _, _, _, _, _, _, _, _, _, _, rfl, rfl, inferInstance, CZ.cast inferInstance rfl (by omega), CZ.cast inferInstance rfl (by omega), CZ.cast inferInstance rfl (by omega), inferInstance, inferInstance⟩
        go_simp
        refine hd hK ?_
        clear hHeld hK K
        intro hHeld
        refine st 5 fun K hK => ?_
        go_simp
        (with_reducible refine Calls.cZ (refIC (by omega)) ?_); intros
        refine hd hK ?_
        clear hHeld hK K
        intro hHeld
        refine st 6 fun K hK => ?_
        go_simp
        (with_reducible refine Calls.cLZB (refMakeNo (by omega) H0) ?_); intros
        refine hd hK ?_
        clear hHeld hK K
        intro hHeld
        refine tk 7 hHeld ?_
        refine tk 8 hHeld ?_
        refine tk 9 hHeld ?_
        refine st 11 fun K hK => ?_
        go_simp
        refine hd hK ?_
        clear hHeld hK K
        intro hHeld
        refine tk 12 hHeld ?_
        refine dn ?_
        clear hHeld
        go_wp2_with fail
        go_meet
        exact ⟨_, _, _, _, _, _, _, _, _, _, _, _, _, rfl, rfl, inferInstance, CZ.cast inferInstance rfl (by omega), CZ.cast inferInstance rfl (by omega), CZ.cast inferInstance rfl (by omega), inferInstance, inferInstance⟩
        go_simp
        refine hd hK ?_
        clear hHeld hK K
        intro hHeld
        refine st 3 fun K hK => ?_
        go_simp
        (with_reducible refine Calls.cZ (refIC (by omega)) ?_); intros
        refine hd hK ?_
        clear hHeld hK K
        intro hHeld
        refine st 5 fun K hK => ?_
        go_simp
        (with_reducible refine Calls.cZ (refIC (by omega)) ?_); intros
        refine hd hK ?_
        clear hHeld hK K
        intro hHeld
        refine st 6 fun K hK => ?_
        go_simp
        (with_reducible refine Calls.cLZB (refMakeNo (by omega) H0) ?_); intros
        refine hd hK ?_
        clear hHeld hK K
        intro hHeld
        refine tk 7 hHeld ?_
        refine tk 8 hHeld ?_
        refine tk 9 hHeld ?_
        refine st 11 fun K hK => ?_
        go_simp
        refine hd hK ?_
        clear hHeld hK K
        intro hHeld
        refine tk 12 hHeld ?_
        refine dn ?_
        clear hHeld
        go_wp2_with fail
        go_meet
        exact ⟨_, _, _, _, _, _, _, _, _, _, _, _, _, rfl, rfl, inferInstance, CZ.cast inferInstance rfl (by omega), CZ.cast inferInstance rfl (by omega), CZ.cast inferInstance rfl (by omega), inferInstance, inferInstance⟩
        go_simp
        refine hd hK ?_
        clear hHeld hK K
        intro hHeld
        refine st 1 fun K hK => ?_
        go_simp
        (with_reducible refine Calls.cZ (refIC (by omega)) ?_); intros
        refine hd hK ?_
        clear hHeld hK K
        intro hHeld
        refine st 3 fun K hK => ?_
        go_simp
        (with_reducible refine Calls.cZ (refIC (by omega)) ?_); intros
        refine hd hK ?_
        clear hHeld hK K
        intro hHeld
        refine st 5 fun K hK => ?_
        go_simp
        (with_reducible refine Calls.cZ (refIC (by omega)) ?_); intros
        refine hd hK ?_
        clear hHeld hK K
        intro hHeld
        refine st 6 fun K hK => ?_
        go_simp
        (with_reducible refine Calls.cLZB (refMakeNo (by omega) H0) ?_); intros
        refine hd hK ?_
        clear hHeld hK K
        intro hHeld
        refine tk 7 hHeld ?_
        refine tk 8 hHeld ?_
        refine tk 9 hHeld ?_
        refine st 11 fun K hK => ?_
        go_simp
        refine hd hK ?_
        clear hHeld hK K
        intro hHeld
        refine tk 12 hHeld ?_
        refine dn ?_
        clear hHeld
        go_wp2_with fail
        go_meet
        exact ⟨_, _, _, _, _, _, _, _, _, _, _, _, _, rfl, rfl, inferInstance, CZ.cast inferInstance rfl (by omega), CZ.cast inferInstance rfl (by omega), CZ.cast inferInstance rfl (by omega), inferInstance, inferInstance⟩
      case rest =>
       obtain ⟨b, gx, ax, lx, cx, gy, ay, ly, cy, gz, az, lz, cz, rfl, rfl, k1, k2, k3, k4, ⟨k5⟩, ⟨k8⟩⟩ := hcut
       have k9 := Nw.mk k8
       have k10 : Ge w b := ⟨Nat.le_trans (inferInstance : Kp w (Wn.alloc (.cells #[.bool gu, .slice au lu cu, .bool gv, .slice av lv cv, .bool gw, .slice aw lw cw] 30))).out.size k8⟩
       have k6 := Kp1.mk k5
       have k7 : Kp w wc := inferInstance
       go_wp2_with (first | (go_at_call 13; (with_reducible refine Calls.cE (sameLC rfl rfl rfl) ?_); intros))
       with_reducible refine Calls.cNew (newW (rowKeep w3 (inferInstance : Kp w _).out)) ?_
       intro W1 _ _
       go_wp2_with fail
       with_reducible refine Calls.cTP tapePointC ?_
       intro W4 _ _ g1a a1a l1a c1a aa1a ll1a cc1a g1b a1b l1b c1b aa1b ll1b cc1b x1 y1 _ _
       go_wp2_with fail
       with_reducible refine Calls.cTP tapePointC ?_
       intro W5 _ _ g2a a2a l2a c2a aa2a ll2a cc2a g2b a2b l2b c2b aa2b ll2b cc2b x2 y2 _ _
       by_cases h1 : thA y1 y2 = 0 ∧ x2 - x1 = 0
       · have H1 := Lib.hid h1
         clear h1
         go_wp2_with fail
         refine rgn [Wn.heap.size] [] fun hHeld => ?_
         refine tk 0 hHeld ?_
         refine tk 2 hHeld ?_
         refine st 1 fun K hK => ?_
         go_simp
         (with_reducible refine Calls.cPA (toPC (by omega)) ?_); intros
         refine hd hK ?_
         clear hHeld hK K
         intro hHeld
         refine st 3 fun K hK => ?_
         go_simp
         (with_reducible refine Calls.cPA (toPC (by omega)) ?_); intros
         refine hd hK ?_
         clear hHeld hK K
         intro hHeld
         refine st 4 fun K hK => ?_
         go_simp
         (with_reducible refine Calls.cLZB (lineThroughNo (by omega) H1) ?_); intros
         refine hd hK ?_
         clear hHeld hK K
         intro hHeld
         refine tk 5 hHeld ?_
         refine tk 6 hHeld ?_
         refine tk 7 hHeld ?_
         refine st 8 fun K hK => ?_
         go_simp
         refine hd hK ?_
         clear hHeld hK K
         intro hHeld
         refine tk 9 hHeld ?_
         refine dn ?_
         clear hHeld
         go_wp2_with (first
           | (go_at_call 18; (with_reducible refine Calls.cLZB (refThroughNo (by omega) H1) ?_); intros)
           | (go_at_call 8; (with_reducible refine Calls.cE (known05C) ?_); intros)
           | (go_at_call 13; (with_reducible refine Calls.cE (sameLC rfl rfl rfl) ?_); intros))
         go_ret
         exact E.fin rfl
       · have H1 := Lib.hid h1
         clear h1
         go_wp2_with fail
         refine rgn [Wn.heap.size] [] fun hHeld => ?_
         refine tk 0 hHeld ?_
         refine tk 2 hHeld ?_
         refine st 1 fun K hK => ?_
         go_simp
         (with_reducible refine Calls.cPA (toPC (by omega)) ?_); intros
         refine hd hK ?_
         clear hHeld hK K
         intro hHeld
         refine st 3 fun K hK => ?_
         go_simp
         (with_reducible refine Calls.cPA (toPC (by omega)) ?_); intros
         refine hd hK ?_
         clear hHeld hK K
         intro hHeld
         refine st 4 fun K hK => ?_
         go_simp
         (with_reducible refine Calls.cLZB (lineThroughOk (by omega) H1) ?_); intros
         refine hd hK ?_
         clear hHeld hK K
         intro hHeld
         refine tk 5 hHeld ?_
         refine tk 6 hHeld ?_
         refine tk 7 hHeld ?_
         refine st 8 fun K hK => ?_
         go_simp
         refine hd hK ?_
         clear hHeld hK K
         intro hHeld
         refine tk 9 hHeld ?_
         refine dn ?_
         clear hHeld
         go_wp2_with (first
           | (go_at_call 18; (with_reducible refine Calls.cLZB (refThroughOk (by omega) H1) ?_); intros)
           | (go_at_call 8; (with_reducible refine Calls.cE (known05C) ?_); intros)
           | (go_at_call 12; (with_reducible refine Calls.cE (same05C (by omega) rfl rfl rfl) ?_); intros))
         go_ret
         exact E.fin rfl
    · have H0 := Lib.hid h0
      have H0' := Lib.hid (int_ne h0)
      have HD := Lib.hid (gcd3_dvd x y z)
      clear h0
      go_enter Tryz.func3, Tryz.ntmps3
      go_wp2_with (first | (go_at_call 7; (with_reducible refine Calls.cE (small3C HV) ?_); intros) | (go_at_call 9; (with_reducible refine Calls.cLZB (lineNewOk (by omega) H0') ?_); intro Wn _ gu au lu cu gv av lv cv gw aw lw cw _ _ _))
      go_upto_region 4 with fail
      go_cut [11, 12] from 33 to 42 (fun t u wx => ∃ (b : Nat) (gx : Bool) (ax : Option Addr) (lx cx : Nat) (gy : Bool) (ay : Option Addr) (ly cy : Nat) (gz : Bool) (az : Option Addr) (lz cz : Nat), t = .pointer (some ⟨b, 0, none⟩) ∧ u = .bool true ∧ Bx wx b 37 [.bool gx, .slice ax lx cx, .bool gy, .slice ay ly cy, .bool gz, .slice az lz cz] ∧ CZ wx (.agg #[.bool gx, .slice ax lx cx]) (x / ((gcd3 x y z : Nat) : Int)) 20 ∧ CZ wx (.agg #[.bool gy, .slice ay ly cy]) (y / ((gcd3 x y z : Nat) : Int)) 20 ∧ CZ wx (.agg #[.bool gz, .slice az lz cz]) (z / ((gcd3 x y z : Nat) : Int)) 20 ∧ Kp (Wn.alloc (.cells #[.bool gu, .slice au lu cu, .bool gv, .slice av lv cv, .bool gw, .slice aw lw cw] 30)) wx ∧ Ge (Wn.alloc (.cells #[.bool gu, .slice au lu cu, .bool gv, .slice av lv cv, .bool gw, .slice aw lw cw] 30)) b)
      case first =>
        refine rgn [] [] fun hHeld => ?_
        refine tk 0 hHeld ?_
        refine tk 2 hHeld ?_
        refine tk 4 hHeld ?_
        refine wpAnyT_ready (rs := [1, 10]) (by kernel_rfl) (by simp) ?_
        refine AllT.cons (by simp; rfl) (fun K hK => ?_) (AllT.cons (by simp; rfl) (fun K hK => ?_) AllT.nil)
        go_simp
        (with_reducible refine Calls.cZ (refIC (by omega)) ?_); intros
        refine hd hK ?_
        clear hHeld hK K
        intro hHeld
        refine wpAnyT_ready (rs := [3, 10]) (by kernel_rfl) (by simp) ?_
        refine AllT.cons (by simp; rfl) (fun K hK => ?_) (AllT.cons (by simp; rfl) (fun K hK => ?_) AllT.nil)
        go_simp
        (with_reducible refine Calls.cZ (refIC (by omega)) ?_); intros
        refine hd hK ?_
        clear hHeld hK K
        intro hHeld
        refine wpAnyT_ready (rs := [5, 10]) (by kernel_rfl) (by simp) ?_
        refine AllT.cons (by simp; rfl) (fun K hK => ?_) (AllT.cons (by simp; rfl) (fun K hK => ?_) AllT.nil)
        go_simp
        (with_reducible refine Calls.cZ (refIC (by omega)) ?_); intros
        refine hd hK ?_
        clear hHeld hK K
        intro hHeld
        refine wpAnyT_ready (rs := [6, 10]) (by kernel_rfl) (by simp) ?_
        refine AllT.cons (by simp; rfl) (fun K hK => ?_) (AllT.cons (by simp; rfl) (fun K hK => ?_) AllT.nil)
        go_simp
        (with_reducible refine Calls.cLZB (refMakeOk (by omega) H0) ?_); intros
        refine hd hK ?_
        clear hHeld hK K
        intro hHeld
        refine tk 7 hHeld ?_
        refine tk 8 hHeld ?_
        refine tk 9 hHeld ?_
        refine st 10 fun K hK => ?_
        go_simp
        refine hd hK ?_
        clear hHeld hK K
        intro hHeld
        refine st 11 fun K hK => ?_
        go_simp
        refine hd hK ?_
        clear hHeld hK K
        intro hHeld
        refine tk 12 hHeld ?_
        refine dn ?_
        clear hHeld
        go_wp2_with fail
        go_meet
        exact ⟨_, _, _, _, _, _, _, _, _, _, _, _, _, rfl, rfl, inferInstance, CZ.cast inferInstance rfl (by omega), CZ.cast inferInstance rfl (by omega), CZ.cast inferInstance rfl (by omega), inferInstance, inferInstance⟩
        go_simp
        refine hd hK ?_
        clear hHeld hK K
        intro hHeld
        refine st 6 fun K hK => ?_
        go_simp
        (with_reducible refine Calls.cLZB (refMakeOk (by omega) H0) ?_); intros
        refine hd hK ?_
        clear hHeld hK K
        intro hHeld
        refine tk 7 hHeld ?_
        refine tk 8 hHeld ?_
        refine tk 9 hHeld ?_
        refine st 11 fun K hK => ?_
        go_simp
        refine hd hK ?_
        clear hHeld hK K
        intro hHeld
        refine tk 12 hHeld ?_
        refine dn ?_
        clear hHeld
        go_wp2_with fail
        go_meet
        exact ⟨_, _, _, _, _, _, _, _, _, _, _, _, _, rfl, rfl, inferInstance, CZ.cast inferInstance rfl (by omega), CZ.cast inferInstance rfl (by omega), CZ.cast inferInstance rfl (by omega), inferInstance, inferInstance⟩
        go_simp
        refine hd hK ?_
        clear hHeld hK K
        intro hHeld
        refine st 5 fun K hK => ?_
        go_simp
        (with_reducible refine Calls.cZ (refIC (by omega)) ?_); intros
        refine hd hK ?_
        clear hHeld hK K
        intro hHeld
        refine st 6 fun K hK => ?_
        go_simp
        (with_reducible refine Calls.cLZB (refMakeOk (by omega) H0) ?_); intros
        refine hd hK ?_
        clear hHeld hK K
        intro hHeld
        refine tk 7 hHeld ?_
        refine tk 8 hHeld ?_
        refine tk 9 hHeld ?_
        refine st 11 fun K hK => ?_
        go_simp
        refine hd hK ?_
        clear hHeld hK K
        intro hHeld
        refine tk 12 hHeld ?_
        refine dn ?_
        clear hHeld
        go_wp2_with fail
        go_meet
        exact ⟨_, _, _, _, _, _, _, _, _, _, _, _, _, rfl, rfl, inferInstance, CZ.cast inferInstance rfl (by omega), CZ.cast inferInstance rfl (by omega), CZ.cast inferInstance rfl (by omega), inferInstance, inferInstance⟩
        go_simp
        refine hd hK ?_
        clear hHeld hK K
        intro hHeld
        refine st 3 fun K hK => ?_
        go_simp
        (with_reducible refine Calls.cZ (refIC (by omega)) ?_); intros
        refine hd hK ?_
        clear hHeld hK K
        intro hHeld
        refine st 5 fun K hK => ?_
        go_simp
        (with_reducible refine Calls.cZ (refIC (by omega)) ?_); intros
        refine hd hK ?_
        clear hHeld hK K
        intro hHeld
        refine st 6 fun K hK => ?_
        go_simp
        (with_reducible refine Calls.cLZB (refMakeOk (by omega) H0) ?_); intros
        refine hd hK ?_
        clear hHeld hK K
        intro hHeld
        refine tk 7 hHeld ?_
        refine tk 8 hHeld ?_
        refine tk 9 hHeld ?_
        refine st 11 fun K hK => ?_
        go_simp
        refine hd hK ?_
        clear hHeld hK K
        intro hHeld
        refine tk 12 hHeld ?_
        refine dn ?_
        clear hHeld
        go_wp2_with fail
        go_meet
        exact ⟨_, _, _, _, _, _, _, _, _, _, _, _, _, rfl, rfl, inferInstance, CZ.cast inferInstance rfl (by omega), CZ.cast inferInstance rfl (by omega), CZ.cast inferInstance rfl (by omega), inferInstance, inferInstance⟩
        go_simp
        refine hd hK ?_
        clear hHeld hK K
        intro hHeld
        refine st 1 fun K hK => ?_
        go_simp
        (with_reducible refine Calls.cZ (refIC (by omega)) ?_); intros
        refine hd hK ?_
        clear hHeld hK K
        intro hHeld
        refine st 3 fun K hK => ?_
        go_simp
        (with_reducible refine Calls.cZ (refIC (by omega)) ?_); intros
        refine hd hK ?_
        clear hHeld hK K
        intro hHeld
        refine st 5 fun K hK => ?_
        go_simp
        (with_reducible refine Calls.cZ (refIC (by omega)) ?_); intros
        refine hd hK ?_
        clear hHeld hK K
        intro hHeld
        refine st 6 fun K hK => ?_
        go_simp
        (with_reducible refine Calls.cLZB (refMakeOk (by omega) H0) ?_); intros
        refine hd hK ?_
        clear hHeld hK K
        intro hHeld
        refine tk 7 hHeld ?_
        refine tk 8 hHeld ?_
        refine tk 9 hHeld ?_
        refine st 11 fun K hK => ?_
        go_simp
        refine hd hK ?_
        clear hHeld hK K
        intro hHeld
        refine tk 12 hHeld ?_
        refine dn ?_
        clear hHeld
        go_wp2_with fail
        go_meet
        exact ⟨_, _, _, _, _, _, _, _, _, _, _, _, _, rfl, rfl, inferInstance, CZ.cast inferInstance rfl (by omega), CZ.cast inferInstance rfl (by omega), CZ.cast inferInstance rfl (by omega), inferInstance, inferInstance⟩
      case rest =>
       obtain ⟨b, gx, ax, lx, cx, gy, ay, ly, cy, gz, az, lz, cz, rfl, rfl, k1, k2, k3, k4, ⟨k5⟩, ⟨k8⟩⟩ := hcut
       have k9 := Nw.mk k8
       have k10 : Ge w b := ⟨Nat.le_trans (inferInstance : Kp w (Wn.alloc (.cells #[.bool gu, .slice au lu cu, .bool gv, .slice av lv cv, .bool gw, .slice aw lw cw] 30))).out.size k8⟩
       have k6 := Kp1.mk k5
       have k7 : Kp w wc := inferInstance
       go_wp2_with (first | (go_at_call 12; (with_reducible refine Calls.cE (same05C (by omega) (lnK_num H0.out HD.out.1) (lnK_num H0.out HD.out.2.1) (lnK_num H0.out HD.out.2.2)) ?_); intros))
       with_reducible refine Calls.cNew (newW (rowKeep w3 (inferInstance : Kp w _).out)) ?_
       intro W1 _ _
       go_wp2_with fail
       with_reducible refine Calls.cTP tapePointC ?_
       intro W4 _ _ g1a a1a l1a c1a aa1a ll1a cc1a g1b a1b l1b c1b aa1b ll1b cc1b x1 y1 _ _
       go_wp2_with fail
       with_reducible refine Calls.cTP tapePointC ?_
       intro W5 _ _ g2a a2a l2a c2a aa2a ll2a cc2a g2b a2b l2b c2b aa2b ll2b cc2b x2 y2 _ _
       by_cases h1 : thA y1 y2 = 0 ∧ x2 - x1 = 0
       · have H1 := Lib.hid h1
         clear h1
         go_wp2_with fail
         refine rgn [Wn.heap.size] [] fun hHeld => ?_
         refine tk 0 hHeld ?_
         refine tk 2 hHeld ?_
         refine st 1 fun K hK => ?_
         go_simp
         (with_reducible refine Calls.cPA (toPC (by omega)) ?_); intros
         refine hd hK ?_
         clear hHeld hK K
         intro hHeld
         refine st 3 fun K hK => ?_
         go_simp
         (with_reducible refine Calls.cPA (toPC (by omega)) ?_); intros
         refine hd hK ?_
         clear hHeld hK K
         intro hHeld
         refine st 4 fun K hK => ?_
         go_simp
         (with_reducible refine Calls.cLZB (lineThroughNo (by omega) H1) ?_); intros
         refine hd hK ?_
         clear hHeld hK K
         intro hHeld
         refine tk 5 hHeld ?_
         refine tk 6 hHeld ?_
         refine tk 7 hHeld ?_
         refine st 8 fun K hK => ?_
         go_simp
         refine hd hK ?_
         clear hHeld hK K
         intro hHeld
         refine tk 9 hHeld ?_
         refine dn ?_
         clear hHeld
         go_wp2_with (first
           | (go_at_call 18; (with_reducible refine Calls.cLZB (refThroughNo (by omega) H1) ?_); intros)
           | (go_at_call 8; (with_reducible refine Calls.cE (known05C) ?_); intros)
           | (go_at_call 13; (with_reducible refine Calls.cE (sameLC rfl rfl rfl) ?_); intros))
         go_ret
         exact E.fin rfl
       · have H1 := Lib.hid h1
         clear h1
         go_wp2_with fail
         refine rgn [Wn.heap.size] [] fun hHeld => ?_
         refine tk 0 hHeld ?_
         refine tk 2 hHeld ?_
         refine st 1 fun K hK => ?_
         go_simp
         (with_reducible refine Calls.cPA (toPC (by omega)) ?_); intros
         refine hd hK ?_
         clear hHeld hK K
         intro hHeld
         refine st 3 fun K hK => ?_
         go_simp
         (with_reducible refine Calls.cPA (toPC (by omega)) ?_); intros
         refine hd hK ?_
         clear hHeld hK K
         intro hHeld
         refine st 4 fun K hK => ?_
         go_simp
         (with_reducible refine Calls.cLZB (lineThroughOk (by omega) H1) ?_); intros
         refine hd hK ?_
         clear hHeld hK K
         intro hHeld
         refine tk 5 hHeld ?_
         refine tk 6 hHeld ?_
         refine tk 7 hHeld ?_
         refine st 8 fun K hK => ?_
         go_simp
         refine hd hK ?_
         clear hHeld hK K
         intro hHeld
         refine tk 9 hHeld ?_
         refine dn ?_
         clear hHeld
         go_wp2_with (first
           | (go_at_call 18; (with_reducible refine Calls.cLZB (refThroughOk (by omega) H1) ?_); intros)
           | (go_at_call 8; (with_reducible refine Calls.cE (known05C) ?_); intros)
           | (go_at_call 12; (with_reducible refine Calls.cE (same05C (by omega) rfl rfl rfl) ?_); intros))
         go_ret
         exact E.fin rfl
end Go.Proofs.YtfdgglddldlpjaaGreat
