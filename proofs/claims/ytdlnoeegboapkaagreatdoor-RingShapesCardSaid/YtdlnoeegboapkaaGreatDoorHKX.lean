/-
  Texts of this claim, joined: Rh15.
-/
import Derived.Test.YtdlnoeegboapkaaGreatDoorHKR
import Derived.Test.YtdlnoeegboapkaaGreatDoorHKS
namespace Go.Proofs.YtdlnoeegboapkaaGreatDoor
open Go.RowKit
set_option linter.unusedVariables false
set_option maxHeartbeats 40000000
set_option maxRecDepth 100000
set_option synthInstance.maxHeartbeats 1000000
set_option synthInstance.maxSize 100000
section
def MtRet (w : World) (x y : Rat) (one : Bool) (k : Nat) (e : Ending) (w' : World) : Prop := ∃ gx ax lx cx aax llx ccx gy ay ly cy aay lly ccy x' y', e = .returned (.tuple #[.agg #[.bool gx, .slice ax lx cx, .slice aax llx ccx, .bool gy, .slice ay ly cy, .slice aay lly ccy], .bool one]) ∧ CQ w' (.agg #[.bool gx, .slice ax lx cx, .slice aax llx ccx]) x' k ∧ CQ w' (.agg #[.bool gy, .slice ay ly cy, .slice aay lly ccy]) y' k ∧ (one = true → x' = x ∧ y' = y) ∧ Below w.heap.size w w'
theorem Calls.cMt {P : Program} {f : FuncId} {args : Array Value} {w : World} {x y : Rat} {one : Bool} {k : Nat} {K : Ending → World → Prop} (h : Calls P f args w (MtRet w x y one k))
    (hK : ∀ w' [Kp1 w w'] (gx : Bool) (ax : Option Addr) (lx : Nat) (cx : Nat) (aax : Option Addr) (llx : Nat) (ccx : Nat) (gy : Bool) (ay : Option Addr) (ly : Nat) (cy : Nat) (aay : Option Addr) (lly : Nat) (ccy : Nat) (x' y' : Rat) [CQ w' (.agg #[.bool gx, .slice ax lx cx, .slice aax llx ccx]) x' k] [CQ w' (.agg #[.bool gy, .slice ay ly cy, .slice aay lly ccy]) y' k], Hid (one = true → x' = x ∧ y' = y) → K (.returned (.tuple #[.agg #[.bool gx, .slice ax lx cx, .slice aax llx ccx, .bool gy, .slice ay ly cy, .slice aay lly ccy], .bool one])) w') : Calls P f args w K := by
  refine h.mono ?_
  rintro e w' ⟨gx, ax, lx, cx, aax, llx, ccx, gy, ay, ly, cy, aay, lly, ccy, x', y', rfl, hx, hy, ho, hb⟩
  exact @hK w' ⟨hb⟩ gx ax lx cx aax llx ccx gy ay ly cy aay lly ccy x' y' hx hy (Lib.hid ho)
theorem MtRet.fin {w w' : World} {gx : Bool} {ax : Option Addr} {lx : Nat} {cx : Nat} {aax : Option Addr} {llx : Nat} {ccx : Nat} {gy : Bool} {ay : Option Addr} {ly : Nat} {cy : Nat} {aay : Option Addr} {lly : Nat} {ccy : Nat} {x y x' y' : Rat} {one v : Bool} {k kx ky : Nat} [b : Kp w w'] [hx : CQ w' (.agg #[.bool gx, .slice ax lx cx, .slice aax llx ccx]) x' kx] [hy : CQ w' (.agg #[.bool gy, .slice ay ly cy, .slice aay lly ccy]) y' ky] (mx : kx ≤ k) (my : ky ≤ k) (e : v = one) (ho : one = true → x' = x ∧ y' = y) : MtRet w x y one k (.returned (.tuple #[.agg #[.bool gx, .slice ax lx cx, .slice aax llx ccx, .bool gy, .slice ay ly cy, .slice aay lly ccy], .bool v])) w' := by
  subst e; exact ⟨gx, ax, lx, cx, aax, llx, ccx, gy, ay, ly, cy, aay, lly, ccy, x', y', rfl, hx.cast rfl mx, hy.cast rfl my, ho, b.out⟩
theorem onB_ex (f : FG) (p : Rat × Rat) : ∃ v : Bool, OnF f p ↔ v = true := by
  by_cases h : OnF f p
  · exact ⟨true, fun _ => rfl, fun _ => h⟩
  · exact ⟨false, fun e => absurd e h, fun e => by cases e⟩
instance CQ.zq {W : World} : CQ W (.agg #[.bool false, .slice none 0 0, .slice none 0 0]) 0 0 := CQ.mk' (h1 := CZ.zz) (h2 := CN.nil) rfl rfl (Nat.le_refl _) (Nat.le_refl _)
theorem refMeetF {w : World} {gx1 gy1 gz1 : Bool} {ax1 ay1 az1 : Option Addr} {lx1 cx1 ly1 cy1 lz1 cz1 : Nat} {gu1 gv1 : Bool} {au1 aau1 av1 aav1 : Option Addr} {lu1 cu1 llu1 ccu1 lv1 cv1 llv1 ccv1 : Nat} {gx2 gy2 gz2 : Bool} {ax2 ay2 az2 : Option Addr} {lx2 cx2 ly2 cy2 lz2 cz2 : Nat} {gu2 gv2 : Bool} {au2 aau2 av2 aav2 : Option Addr} {lu2 cu2 llu2 ccu2 lv2 cv2 llv2 ccv2 : Nat} {f g : FG} {k : Nat} [jx1 : CZ w (.agg #[.bool gx1, .slice ax1 lx1 cx1]) f.a k] [jy1 : CZ w (.agg #[.bool gy1, .slice ay1 ly1 cy1]) f.b k] [jz1 : CZ w (.agg #[.bool gz1, .slice az1 lz1 cz1]) f.c k] [ju1 : CQ w (.agg #[.bool gu1, .slice au1 lu1 cu1, .slice aau1 llu1 ccu1]) f.lo k] [jv1 : CQ w (.agg #[.bool gv1, .slice av1 lv1 cv1, .slice aav1 llv1 ccv1]) f.hi k] [jx2 : CZ w (.agg #[.bool gx2, .slice ax2 lx2 cx2]) g.a k] [jy2 : CZ w (.agg #[.bool gy2, .slice ay2 ly2 cy2]) g.b k] [jz2 : CZ w (.agg #[.bool gz2, .slice az2 lz2 cz2]) g.c k] [ju2 : CQ w (.agg #[.bool gu2, .slice au2 lu2 cu2, .slice aau2 llu2 ccu2]) g.lo k] [jv2 : CQ w (.agg #[.bool gv2, .slice av2 lv2 cv2, .slice aav2 llv2 ccv2]) g.hi k] {x y : Rat} {one : Bool} (b : k ≤ 100) (hf : FGV f) (hg : FGV g) (hm : Hid (MtO f g x y one)) :
    Calls Tryz.prog 112 #[.agg #[.bool gx1, .slice ax1 lx1 cx1, .bool gy1, .slice ay1 ly1 cy1, .bool gz1, .slice az1 lz1 cz1, .bool gu1, .slice au1 lu1 cu1, .slice aau1 llu1 ccu1, .bool gv1, .slice av1 lv1 cv1, .slice aav1 llv1 ccv1, .bool false, .bool false], .agg #[.bool gx2, .slice ax2 lx2 cx2, .bool gy2, .slice ay2 ly2 cy2, .bool gz2, .slice az2 lz2 cz2, .bool gu2, .slice au2 lu2 cu2, .slice aau2 llu2 ccu2, .bool gv2, .slice av2 lv2 cv2, .slice aav2 llv2 ccv2, .bool false, .bool false]] w (MtRet w x y one (18 * k + 100)) := by
  by_cases hc : SmL f g ∨ OpL f g
  · have HC : Hid ((SmL f g ∨ OpL f g) ↔ true = true) := Lib.hid ⟨fun _ => rfl, fun _ => hc⟩
    obtain ⟨lo, hi, hon⟩ := OnC.ex hc; obtain ⟨v, hov⟩ := ovB_ex f g; have HO := Lib.hid hov
    cases v with
    | true =>
      obtain rfl : one = false := ov_one (hov.2 rfl) hm.out; have HOV := Lib.hid (hov.2 rfl); clear hc hon hm hov HO; go_enter Tryz.func112, Tryz.ntmps112
      go_wp2_with (first
        | (go_at_call 172; (with_reducible refine Calls.cE (refCollinear (f := f) (g := g) (k := k) (by omega) HC) ?_); intros)
        | (go_at_call 111; (with_reducible refine Calls.cFkA (refOverlapV (f := f) (g := g) (k := k) (v := true) (by omega) hf hg (Lib.hid ⟨fun _ => rfl, fun _ => HOV.out⟩)) ?_); intros))
      refine ret_b9 rfl Tryz.underlying47 rfl (by kernel_rfl) rfl rfl rfl ?_
      exact MtRet.fin (by omega) (by omega) rfl (fun e => by cases e)
    | false =>
      have HE := Lib.hid (ends_meet hf (hon.lt hg) hon.onto (fun h => by cases hov.1 h) hm.out)
      have HL : Hid (∀ q, q < 2 → (∀ j, j < q → ¬ OnF g (pg [atF f f.lo, atF f f.hi] j)) → OnF g (pg [atF f f.lo, atF f f.hi] q) → one = true ∧ (x, y) = pg [atF f f.lo, atF f f.hi] q) := Lib.hid (fun q hq h1 h2 => by
        rcases (by omega : q = 0 ∨ q = 1) with rfl | rfl
        · exact HE.out.1 h2
        · exact HE.out.2.1 (h1 0 (by decide)) h2)
      have HF : Hid ((∀ j, j < 2 → ¬ OnF g (pg [atF f f.lo, atF f f.hi] j)) → one = false) := Lib.hid (fun h => HE.out.2.2 (h 0 (by decide)) (h 1 (by decide)))
      clear hc hon hm hov HE; go_enter Tryz.func112, Tryz.ntmps112
      go_wp2_with (first
        | (go_at_call 172; (with_reducible refine Calls.cE (refCollinear (f := f) (g := g) (k := k) (by omega) HC) ?_); intros)
        | (go_at_call 111; (with_reducible refine Calls.cFkA (refOverlapV (f := f) (g := g) (k := k) (by omega) hf hg HO) ?_); intros)
        | (go_at_call 177; (with_reducible refine Calls.cPsQRet (refEndsF (f := f) (k := k) (by omega) hf) ?_); intro w9 _ ea ec U _ iu))
      have hU : U.length = 2 := iu.len
      have HU := Lib.hid hU; obtain ⟨ge, rfl, hA⟩ := (inferInstance : Sl w9 (.slice ea U.length ec) U.length (rowA U) w9).form (by omega); have hU3 : U.length ≤ 3 := (by omega); clear hU
      go_loopw [49] (fun i wr => ∃ q : Nat, i = .int .i64 (q : Int) ∧ q ≤ U.length ∧ Hid (∀ j, j < q → ¬ OnF g (pg [atF f f.lo, atF f f.hi] j)) ∧ Kp w9 wr) (fun i _ => U.length - (intOf i).toNat)
      case atStart => exact ⟨0, rfl, by omega, Lib.hid (fun j hj => by omega), inferInstance⟩
      case round =>
        obtain ⟨q, rfl, hq, hQ, i2⟩ := hrel; have kw := Kp1.mk i2.out
        by_cases hlt : q < U.length
        · have hlt' : (q : Int) < U.length := by omega
          have lq : LtN q U.length := ⟨hlt⟩
          have ew : IntKind.i64.wrap ((q : Int) + 1) = (q : Int) + 1 := wr_in (by omega) (by omega)
          obtain ⟨v, hv⟩ := onB_ex g (pg [atF f f.lo, atF f f.hi] q)
          have HV : Hid (OnF g ((pg [atF f f.lo, atF f f.hi] q).1, (pg [atF f f.lo, atF f f.hi] q).2) ↔ v = true) := Lib.hid hv
          clear hv
          cases v with
          | true =>
            have HONE := Lib.hid (HL.out q (by rw [← HU.out]; exact hlt) hQ.out (HV.out.2 rfl))
            clear HL HF hQ
            go_wp2_with (first
              | (with_reducible refine step_ld (t := 47) (x := .tmp 54) rfl rfl rfl (load_box Tryz.underlying47 rfl (by kernel_rfl)) ?_)
              | (go_at_call 176; (with_reducible refine Calls.cE (refHas (f := g) (k := k) (by omega) hg HV) ?_); intros))
            refine ret_b9 rfl Tryz.underlying47 rfl (by kernel_rfl) rfl rfl rfl ?_
            exact MtRet.fin (x' := (pg [atF f f.lo, atF f f.hi] q).1) (y' := (pg [atF f f.lo, atF f f.hi] q).2) (by omega) (by omega) HONE.out.1.symm (fun _ => ⟨(congrArg Prod.fst HONE.out.2).symm, (congrArg Prod.snd HONE.out.2).symm⟩)
          | false =>
            go_wp2_with (first
              | (with_reducible refine step_ld (t := 47) (x := .tmp 54) rfl rfl rfl (load_box Tryz.underlying47 rfl (by kernel_rfl)) ?_)
              | (go_at_call 176; (with_reducible refine Calls.cE (refHas (f := g) (k := k) (by omega) hg HV) ?_); intros))
            go_roundw
            case rel => exact ⟨q + 1, by go_num, by omega, Lib.hid (fun j hj => by
              by_cases e : j = q
              · subst e; exact fun h => by cases HV.out.1 h
              · exact hQ.out j (by omega)), inferInstance⟩
            case measure => simp [intOf]; omega
        · obtain rfl : q = U.length := by omega
          obtain rfl : one = false := HF.out (fun j hj => hQ.out j (by rw [HU.out]; exact hj))
          clear HL HF hQ; go_wp2_with fail
          refine ret_b9 rfl Tryz.underlying47 rfl (by kernel_rfl) rfl rfl rfl ?_
          exact MtRet.fin (by omega) (by omega) rfl (fun e => by cases e)
  · have HC : Hid ((SmL f g ∨ OpL f g) ↔ false = true) := Lib.hid ⟨fun h => absurd h hc, fun e => by cases e⟩
    by_cases hd : dtL f g = 0
    · obtain rfl : one = false := par_one hf hg (fun h => hc (.inl h)) (fun h => hc (.inr h)) hd hm.out
      have HZ : Hid (decide (((f.a : Int) : Rat) * ((g.b : Int) : Rat) - ((f.b : Int) : Rat) * ((g.a : Int) : Rat) = 0) = true) := Lib.hid (decide_eq_true hd)
      clear hc hd hm; go_enter Tryz.func112, Tryz.ntmps112
      go_wp2_with (first
        | (go_at_call 172; (with_reducible refine Calls.cE (refCollinear (f := f) (g := g) (k := k) (by omega) HC) ?_); intros)
        | (go_at_call 175; (with_reducible refine Calls.cPQB (refMeetNo (k1x := k) (k1y := k) (k1z := k) (k2x := k) (k2y := k) (k2z := k) (by omega) HZ) ?_); intros))
      refine rgn [w.heap.size + 1 + 1] [] fun hH => ?_; refine tk 0 hH ?_; refine tk 1 hH ?_; refine tk 2 hH ?_; refine tkU 3 hH ?_; refine tkU 4 hH ?_; refine tkU 5 hH ?_; refine tk 6 hH ?_; refine tk 7 hH ?_; refine tkU 8 hH ?_; refine tkU 9 hH ?_; refine tkU 10 hH ?_; refine tk 11 hH ?_; refine st 12 fun K hK => ?_; go_simp; refine hd hK ?_; clear hH hK K; intro hH; refine tk 13 hH ?_; refine dn ?_; clear hH; go_wp2_with fail
      refine ret_b9 rfl Tryz.underlying47 rfl (by kernel_rfl) rfl rfl rfl ?_
      exact MtRet.fin (by omega) (by omega) rfl (fun e => by cases e)
    · have HZ : Hid (decide (((f.a : Int) : Rat) * ((g.b : Int) : Rat) - ((f.b : Int) : Rat) * ((g.a : Int) : Rat) = 0) = false) := Lib.hid (decide_eq_false hd)
      obtain ⟨v1, h1⟩ := onB_ex f (mtX f g, mtY f g); obtain ⟨v2, h2⟩ := onB_ex g (mtX f g, mtY f g); have HI := Lib.hid (meet_iff hd hm.out h1 h2); have H1 := Lib.hid h1; have H2 := Lib.hid h2; clear hc hd hm h1 h2; go_enter Tryz.func112, Tryz.ntmps112
      go_wp2_with (first
        | (go_at_call 172; (with_reducible refine Calls.cE (refCollinear (f := f) (g := g) (k := k) (by omega) HC) ?_); intros)
        | (go_at_call 175; (with_reducible refine Calls.cPQB (refMeetOk (k1x := k) (k1y := k) (k1z := k) (k2x := k) (k2y := k) (k2z := k) (by omega) HZ) ?_); intro w4 _ gx8 ax8 lx8 cx8 aax8 llx8 ccx8 gy8 ay8 ly8 cy8 aay8 lly8 ccy8 ix iy; rw [refMt_x] at ix; rw [refMt_y] at iy))
      cases v1 with
      | false =>
        refine rgn [w.heap.size + 1 + 1] [] fun hH => ?_; refine tk 0 hH ?_; refine tk 1 hH ?_; refine tk 2 hH ?_; refine tk 3 hH ?_; refine tk 4 hH ?_; refine st 5 fun K hK => ?_; go_simp; (with_reducible refine Calls.cE (refHas (f := f) (k := k) (by omega) hf H1) ?_); intros; refine hd hK ?_; clear hH hK K; intro hH; refine tk 6 hH ?_; refine tk 7 hH ?_; refine tkU 8 hH ?_; refine tkU 9 hH ?_; refine tkU 10 hH ?_; refine tk 11 hH ?_; refine st 12 fun K hK => ?_; go_simp; refine hd hK ?_; clear hH hK K; intro hH; refine tk 13 hH ?_; refine dn ?_; clear hH; go_wp2_with fail
        refine ret_b9 rfl Tryz.underlying47 rfl (by kernel_rfl) rfl rfl rfl ?_
        exact MtRet.fin (x' := mtX f g) (y' := mtY f g) (by omega) (by omega) (by rw [HI.out.1]; rfl) (fun e => ⟨(congrArg Prod.fst (HI.out.2 e)).symm, (congrArg Prod.snd (HI.out.2 e)).symm⟩)
      | true =>
        refine rgn [w.heap.size + 1 + 1] [] fun hH => ?_; refine tk 0 hH ?_; refine tk 1 hH ?_; refine tk 2 hH ?_; refine tk 3 hH ?_; refine tk 4 hH ?_; refine st 5 fun K hK => ?_; go_simp; (with_reducible refine Calls.cE (refHas (f := f) (k := k) (by omega) hf H1) ?_); intros; refine hd hK ?_; clear hH hK K; intro hH; refine tk 6 hH ?_; refine tk 7 hH ?_; refine tk 8 hH ?_; refine tk 9 hH ?_; refine st 10 fun K hK => ?_; go_simp; (with_reducible refine Calls.cE (refHas (f := g) (k := k) (by omega) hg H2) ?_); intros; refine hd hK ?_; clear hH hK K; intro hH; refine tk 11 hH ?_; refine st 12 fun K hK => ?_; go_simp; refine hd hK ?_; clear hH hK K; intro hH; refine tk 13 hH ?_; refine dn ?_; clear hH; go_wp2_with fail
        refine ret_b9 rfl Tryz.underlying47 rfl (by kernel_rfl) rfl rfl rfl ?_
        exact MtRet.fin (x' := mtX f g) (y' := mtY f g) (by omega) (by omega) (by rw [HI.out.1]; rfl) (fun e => ⟨(congrArg Prod.fst (HI.out.2 e)).symm, (congrArg Prod.snd (HI.out.2 e)).symm⟩)
end
end Go.Proofs.YtdlnoeegboapkaaGreatDoor
