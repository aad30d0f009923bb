/-
  Texts of this claim, joined: Rh14a, Rh5.
-/
import Derived.Test.YtdlnoeegboapkaaGreatDoorHKL
import Derived.Test.YtdlnoeegboapkaaGreatDoorHKR
import Derived.Test.YtdlnoeegboapkaaGreatDoorCL
namespace Go.Proofs.YtdlnoeegboapkaaGreatDoor
open Go.RowKit
set_option linter.unusedVariables false
set_option maxHeartbeats 40000000
set_option maxRecDepth 100000
set_option synthInstance.maxHeartbeats 1000000
set_option synthInstance.maxSize 100000
section
theorem refEndsF {w : World} {gx1 gy1 gz1 : Bool} {ax1 ay1 az1 : Option Addr} {lx1 cx1 ly1 cy1 lz1 cz1 : Nat} {gu1 gv1 : Bool} {au1 aau1 av1 aav1 : Option Addr} {lu1 cu1 llu1 ccu1 lv1 cv1 llv1 ccv1 : Nat} {f : FG} {k : Nat} [jx1 : CZ w (.agg #[.bool gx1, .slice ax1 lx1 cx1]) f.a k] [jy1 : CZ w (.agg #[.bool gy1, .slice ay1 ly1 cy1]) f.b k] [jz1 : CZ w (.agg #[.bool gz1, .slice az1 lz1 cz1]) f.c k] [ju1 : CQ w (.agg #[.bool gu1, .slice au1 lu1 cu1, .slice aau1 llu1 ccu1]) f.lo k] [jv1 : CQ w (.agg #[.bool gv1, .slice av1 lv1 cv1, .slice aav1 llv1 ccv1]) f.hi k] (b : k ≤ 300) (hf : FGV f) :
    Calls Tryz.prog 177 #[.agg #[.bool gx1, .slice ax1 lx1 cx1, .bool gy1, .slice ay1 ly1 cy1, .bool gz1, .slice az1 lz1 cz1, .bool gu1, .slice au1 lu1 cu1, .slice aau1 llu1 ccu1, .bool gv1, .slice av1 lv1 cv1, .slice aav1 llv1 ccv1, .bool false, .bool false]] w (PsQRet w [atF f f.lo, atF f f.hi] (8 * k + 80)) := by
  have HV : Hid (LnV f.a f.b f.c) := Lib.hid hf.v
  go_enter Tryz.func177, Tryz.ntmps177
  go_upto_region 5 with (first
    | (go_at_call 246; (with_reducible refine Calls.cPQ (refAtC (by omega) HV) ?_); intro w1 _ gx1 ax1 lx1 cx1 aax1 llx1 ccx1 gy1 ay1 ly1 cy1 aay1 lly1 ccy1 ix1 iy1; rw [refAt_x] at ix1; rw [refAt_y] at iy1)
    | (at_builtin; go_loud (refine app_rn1 (hr := Rn.nil (base := w.heap.size + 1) (by have h := (inferInstance : Kp1 _ w1).out.size; simp only [World.size_alloc] at h ⊢; omega)) (v := .slice none 0 0) rfl (.tmp 8) (.tmp 15) 61 rfl Tryz.underlying61 info_q rfl (by decide) (by decide) (by decide) inferInstance rfl (fun u hu => by cases hu) rfl (by rfl) ?h1 ?h2 (by decide) ?_); (case h1 => exact AV.one ⟨gx1, ax1, lx1, cx1, aax1, llx1, ccx1, gy1, ay1, ly1, cy1, aay1, lly1, ccy1⟩); (case h2 => exact AV.nd ⟨gx1, ax1, lx1, cx1, aax1, llx1, ccx1, gy1, ay1, ly1, cy1, aay1, lly1, ccy1⟩); intro h1 d1 z1 m1 n1 o1))
  go_wp2_with (first
    | (go_at_call 246; (with_reducible refine Calls.cPQ (refAtC (by omega) HV) ?_); intro w2 _ gx2 ax2 lx2 cx2 aax2 llx2 ccx2 gy2 ay2 ly2 cy2 aay2 lly2 ccy2 ix2 iy2; rw [refAt_x] at ix2; rw [refAt_y] at iy2)
    | (at_builtin; go_loud (refine app_rn1 (v := .slice (some ⟨h1, 0, none⟩) 1 d1) rfl (.tmp 21) (.tmp 28) 61 rfl Tryz.underlying61 info_q rfl (by decide) (by decide) (by decide) inferInstance rfl (AV.nd ⟨gx1, ax1, lx1, cx1, aax1, llx1, ccx1, gy1, ay1, ly1, cy1, aay1, lly1, ccy1⟩) rfl (by rfl) ?h1 ?h2 (by decide) ?_); (case h1 => exact AV.one ⟨gx2, ax2, lx2, cx2, aax2, llx2, ccx2, gy2, ay2, ly2, cy2, aay2, lly2, ccy2⟩); (case h2 => exact AV.nd ⟨gx2, ax2, lx2, cx2, aax2, llx2, ccx2, gy2, ay2, ly2, cy2, aay2, lly2, ccy2⟩); intro h2 d2 z2 m2 n2 o2))
  go_ret
  have e : rowA ([⟨gx1, ax1, lx1, cx1, aax1, llx1, ccx1, gy1, ay1, ly1, cy1, aay1, lly1, ccy1⟩, ⟨gx2, ax2, lx2, cx2, aax2, llx2, ccx2, gy2, ay2, ly2, cy2, aay2, lly2, ccy2⟩] : List AV) = [] ++ AV.l ⟨gx1, ax1, lx1, cx1, aax1, llx1, ccx1, gy1, ay1, ly1, cy1, aay1, lly1, ccy1⟩ ++ AV.l ⟨gx2, ax2, lx2, cx2, aax2, llx2, ccx2, gy2, ay2, ly2, cy2, aay2, lly2, ccy2⟩ := rfl
  have hq : PsQ z2 [⟨gx1, ax1, lx1, cx1, aax1, llx1, ccx1, gy1, ay1, ly1, cy1, aay1, lly1, ccy1⟩, ⟨gx2, ax2, lx2, cx2, aax2, llx2, ccx2, gy2, ay2, ly2, cy2, aay2, lly2, ccy2⟩] [atF f f.lo, atF f f.hi] (8 * k + 80) := PsQ.add (h := PsQ.add (h := PsQ.nil) (hx := CQ.cast (k' := 8 * k + 80) inferInstance rfl (by omega)) (hy := CQ.cast (k' := 8 * k + 80) inferInstance rfl (by omega)) (Nat.le_refl _) (Nat.le_refl _)) (hx := CQ.cast (k' := 8 * k + 80) inferInstance rfl (by omega)) (hy := CQ.cast (k' := 8 * k + 80) inferInstance rfl (by omega)) (Nat.le_refl _) (Nat.le_refl _)
  exact PsQRet.fin (V := [⟨gx1, ax1, lx1, cx1, aax1, llx1, ccx1, gy1, ay1, ly1, cy1, aay1, lly1, ccy1⟩, ⟨gx2, ax2, lx2, cx2, aax2, llx2, ccx2, gy2, ay2, ly2, cy2, aay2, lly2, ccy2⟩]) (hs := (Sl.ofRn (h := Rn.cast2 o2 rfl rfl) : _)) (hv := hq) rfl (Nat.le_refl _)
end
section
theorem clsV_cases {lo hi P : Rat} (h : lo < hi) : (clsV lo hi P = 0 ∧ ¬ (lo ≤ P ∧ P ≤ hi)) ∨ (0 < clsV lo hi P ∧ lo ≤ P ∧ P ≤ hi) := by
  unfold clsV
  split
  · exact .inr ⟨by decide, by grind, by grind⟩
  · split
    · exact .inr ⟨by decide, by grind, by grind⟩
    · exact .inl ⟨rfl, by grind⟩
theorem refSideV {w : World} {gx1 gy1 gz1 : Bool} {ax1 ay1 az1 : Option Addr} {lx1 cx1 ly1 cy1 lz1 cz1 : Nat} {gm gn : Bool} {am aam an aan : Option Addr} {lm cm llm ccm ln cn lln ccn : Nat} {la lb lc : Int} {x y : Rat} {k kx ky : Nat} [jx1 : CZ w (.agg #[.bool gx1, .slice ax1 lx1 cx1]) la k] [jy1 : CZ w (.agg #[.bool gy1, .slice ay1 ly1 cy1]) lb k] [jz1 : CZ w (.agg #[.bool gz1, .slice az1 lz1 cz1]) lc k] [jm : CQ w (.agg #[.bool gm, .slice am lm cm, .slice aam llm ccm]) x kx] [jn : CQ w (.agg #[.bool gn, .slice an ln cn, .slice aan lln ccn]) y ky] (b : k ≤ 5000 ∧ kx ≤ 5000 ∧ ky ≤ 5000) {s : Int} (hs : Hid (isgn (((la : Int) : Rat) * x + ((lb : Int) : Rat) * y + ((lc : Int) : Rat)).num = s)) :
    Calls Tryz.prog 244 #[.agg #[.bool gx1, .slice ax1 lx1 cx1, .bool gy1, .slice ay1 ly1 cy1, .bool gz1, .slice az1 lz1 cz1], .agg #[.bool gm, .slice am lm cm, .slice aam llm ccm, .bool gn, .slice an ln cn, .slice aan lln ccn]] w (fun e w' => e = .returned (.int .i64 s) ∧ Below w.heap.size w w') := by
  rw [← hs.out]; exact refSideC (by omega)
theorem refHas {w : World} {gx1 gy1 gz1 : Bool} {ax1 ay1 az1 : Option Addr} {lx1 cx1 ly1 cy1 lz1 cz1 : Nat} {gu1 gv1 : Bool} {au1 aau1 av1 aav1 : Option Addr} {lu1 cu1 llu1 ccu1 lv1 cv1 llv1 ccv1 : Nat} {gm gn : Bool} {am aam an aan : Option Addr} {lm cm llm ccm ln cn lln ccn : Nat} {f : FG} {x y : Rat} {k kx ky : Nat} [jx1 : CZ w (.agg #[.bool gx1, .slice ax1 lx1 cx1]) f.a k] [jy1 : CZ w (.agg #[.bool gy1, .slice ay1 ly1 cy1]) f.b k] [jz1 : CZ w (.agg #[.bool gz1, .slice az1 lz1 cz1]) f.c k] [ju1 : CQ w (.agg #[.bool gu1, .slice au1 lu1 cu1, .slice aau1 llu1 ccu1]) f.lo k] [jv1 : CQ w (.agg #[.bool gv1, .slice av1 lv1 cv1, .slice aav1 llv1 ccv1]) f.hi k] [jm : CQ w (.agg #[.bool gm, .slice am lm cm, .slice aam llm ccm]) x kx] [jn : CQ w (.agg #[.bool gn, .slice an ln cn, .slice aan lln ccn]) y ky] (b : k ≤ 300 ∧ kx ≤ 3000 ∧ ky ≤ 3000) (hf : FGV f) {v : Bool} (hv : Hid (OnF f (x, y) ↔ v = true)) :
    Calls Tryz.prog 176 #[.agg #[.bool gx1, .slice ax1 lx1 cx1, .bool gy1, .slice ay1 ly1 cy1, .bool gz1, .slice az1 lz1 cz1, .bool gu1, .slice au1 lu1 cu1, .slice aau1 llu1 ccu1, .bool gv1, .slice av1 lv1 cv1, .slice aav1 llv1 ccv1, .bool false, .bool false], .agg #[.bool gm, .slice am lm cm, .slice aam llm ccm, .bool gn, .slice an ln cn, .slice aan lln ccn]] w (fun e w' => e = .returned (.bool v) ∧ Below w.heap.size w w') := by
  obtain ⟨s, hs⟩ : ∃ s, isgn (((f.a : Int) : Rat) * x + ((f.b : Int) : Rat) * y + ((f.c : Int) : Rat)).num = s := ⟨_, rfl⟩; have HSd := Lib.hid hs
  have hs0 : s = 0 ↔ onL f.a f.b f.c x y := by rw [← hs, isg_zero]; rfl
  obtain ⟨P, hP⟩ : ∃ P, (x * ((f.b : Int) : Rat) + y * -((f.a : Int) : Rat)) / (((f.b : Int) : Rat) * ((f.b : Int) : Rat) + -((f.a : Int) : Rat) * -((f.a : Int) : Rat)) = P := ⟨_, rfl⟩; have HP := Lib.hid hP
  have hPL : parL f.a f.b x y = P := by rw [← hP]; unfold parL; exact par_x
  obtain ⟨c, hc⟩ : ∃ c, clsV f.lo f.hi P = c := ⟨_, rfl⟩; have HC := Lib.hid hc
  have hlt := hf.lt
  have hc3 : (c = 0 ∧ ¬ (f.lo ≤ P ∧ P ≤ f.hi)) ∨ (0 < c ∧ f.lo ≤ P ∧ P ≤ f.hi) := by
    rw [← hc]; exact clsV_cases hlt
  have HLN : Hid (LnV f.a f.b f.c) := Lib.hid hf.v
  have hO : OnF f (x, y) ↔ s = 0 ∧ f.lo ≤ P ∧ P ≤ f.hi := by
    unfold OnF
    show onL f.a f.b f.c x y ∧ f.lo ≤ parL f.a f.b x y ∧ parL f.a f.b x y ≤ f.hi ↔ _
    rw [hs0, hPL]
  have HVV : Hid ((s = 0 ∧ f.lo ≤ P ∧ P ≤ f.hi) ↔ v = true) := Lib.hid (hO.symm.trans hv.out)
  clear hO hs hP hPL hc hv hs0 hf
  by_cases h0 : s = 0
  · subst h0
    rcases hc3 with ⟨rfl, h⟩ | ⟨hc0, h1, h2⟩
    · have hvv : v = false := by
        cases v
        · rfl
        · exact absurd (HVV.out.2 rfl).2 h
      subst hvv; clear h; go_enter Tryz.func176, Tryz.ntmps176; go_wp2_with fail; refine rgn [] [] fun hH => ?_; refine tk 0 hH ?_; refine tk 1 hH ?_; refine tk 2 hH ?_; refine st 3 fun K hK => ?_; go_simp; (with_reducible refine Calls.cE (refSideV (by omega) HSd) ?_); intros; refine hd hK ?_; clear hH hK K; intro hH; refine tk 4 hH ?_; refine tk 5 hH ?_; refine tk 6 hH ?_; refine tk 7 hH ?_; refine tk 9 hH ?_; refine tk 10 hH ?_; refine tk 11 hH ?_; refine wpAnyT_ready (rs := [8, 12]) (by kernel_rfl) (by simp) ?_; refine AllT.cons (by simp; rfl) (fun K hK => ?_) (AllT.cons (by simp; rfl) (fun K hK => ?_) AllT.nil); go_simp; refine hd hK ?_; clear hH hK K; intro hH; refine st 12 fun K hK => ?_; go_simp
      (with_reducible refine Calls.cQ (refParamC (by omega) HLN) ?_); intro w5 _ g5 a5 l5 c5 aa5 ll5 cc5 i5; rw [HP.out] at i5
      refine hd hK ?_; clear hH hK K; intro hH; refine st 13 fun K hK => ?_; go_simp; (with_reducible refine Calls.cE (refClass1 (by omega) hlt HC) ?_); intros; refine hd hK ?_; clear hH hK K; intro hH; refine tk 14 hH ?_; refine tk 15 hH ?_; refine tk 16 hH ?_; refine dn ?_; clear hH; go_wp2_with fail; go_ret; exact E.fin rfl; go_simp
      (with_reducible refine Calls.cQ (refParamC (by omega) HLN) ?_); intro w5 _ g5 a5 l5 c5 aa5 ll5 cc5 i5; rw [HP.out] at i5
      refine hd hK ?_; clear hH hK K; intro hH; refine st 8 fun K hK => ?_; go_simp; refine hd hK ?_; clear hH hK K; intro hH; refine st 13 fun K hK => ?_; go_simp; (with_reducible refine Calls.cE (refClass1 (by omega) hlt HC) ?_); intros; refine hd hK ?_; clear hH hK K; intro hH; refine tk 14 hH ?_; refine tk 15 hH ?_; refine tk 16 hH ?_; refine dn ?_; clear hH; go_wp2_with fail; go_ret; exact E.fin rfl
    · have hvv : v = true := HVV.out.1 ⟨rfl, h1, h2⟩
      subst hvv; clear h1 h2; go_enter Tryz.func176, Tryz.ntmps176; go_wp2_with fail; refine rgn [] [] fun hH => ?_; refine tk 0 hH ?_; refine tk 1 hH ?_; refine tk 2 hH ?_; refine st 3 fun K hK => ?_; go_simp; (with_reducible refine Calls.cE (refSideV (by omega) HSd) ?_); intros; refine hd hK ?_; clear hH hK K; intro hH; refine tk 4 hH ?_; refine tk 5 hH ?_; refine tk 6 hH ?_; refine tk 7 hH ?_; refine tk 9 hH ?_; refine tk 10 hH ?_; refine tk 11 hH ?_; refine wpAnyT_ready (rs := [8, 12]) (by kernel_rfl) (by simp) ?_; refine AllT.cons (by simp; rfl) (fun K hK => ?_) (AllT.cons (by simp; rfl) (fun K hK => ?_) AllT.nil); go_simp; refine hd hK ?_; clear hH hK K; intro hH; refine st 12 fun K hK => ?_; go_simp
      (with_reducible refine Calls.cQ (refParamC (by omega) HLN) ?_); intro w5 _ g5 a5 l5 c5 aa5 ll5 cc5 i5; rw [HP.out] at i5
      refine hd hK ?_; clear hH hK K; intro hH; refine st 13 fun K hK => ?_; go_simp; (with_reducible refine Calls.cE (refClass1 (by omega) hlt HC) ?_); intros; refine hd hK ?_; clear hH hK K; intro hH; refine tk 14 hH ?_; refine tk 15 hH ?_; refine tk 16 hH ?_; refine dn ?_; clear hH; go_wp2_with fail; go_ret; exact E.fin rfl; go_simp
      (with_reducible refine Calls.cQ (refParamC (by omega) HLN) ?_); intro w5 _ g5 a5 l5 c5 aa5 ll5 cc5 i5; rw [HP.out] at i5
      refine hd hK ?_; clear hH hK K; intro hH; refine st 8 fun K hK => ?_; go_simp; refine hd hK ?_; clear hH hK K; intro hH; refine st 13 fun K hK => ?_; go_simp; (with_reducible refine Calls.cE (refClass1 (by omega) hlt HC) ?_); intros; refine hd hK ?_; clear hH hK K; intro hH; refine tk 14 hH ?_; refine tk 15 hH ?_; refine tk 16 hH ?_; refine dn ?_; clear hH; go_wp2_with fail; go_ret; exact E.fin rfl
  · have hvv : v = false := by
      cases v
      · rfl
      · exact absurd (HVV.out.2 rfl).1 h0
    subst hvv
    have h0b : (s == 0) = false := beq_false_of_ne h0
    clear hc3; go_enter Tryz.func176, Tryz.ntmps176; go_wp2_with fail; refine rgn [] [] fun hH => ?_; refine tk 0 hH ?_; refine tk 1 hH ?_; refine tk 2 hH ?_; refine st 3 fun K hK => ?_; go_simp; (with_reducible refine Calls.cE (refSideV (by omega) HSd) ?_); intros; refine hd hK ?_; clear hH hK K; intro hH; refine tk 4 hH ?_; refine tk 5 hH ?_; refine tkU 6 hH ?_; refine tkU 7 hH ?_; refine tkU 8 hH ?_; refine tkU 9 hH ?_; refine tkU 10 hH ?_; refine tkU 11 hH ?_; refine tkU 12 hH ?_; refine tkU 13 hH ?_; refine tkU 14 hH ?_; refine tk 15 hH ?_; refine tk 16 hH ?_; refine dn ?_; clear hH; go_wp2_with fail; go_ret; exact E.fin rfl
end
end Go.Proofs.YtdlnoeegboapkaaGreatDoor
