/-
  Texts of this claim, joined: Rh3, Rh4.
-/
import Derived.Test.YtdlnoeegboapkaaGreatDoorHKC
import Derived.Test.YtdlnoeegboapkaaGreatDoorHKK
import Derived.Test.YtdlnoeegboapkaaGreatDoorCO
import Derived.Test.YtdlnoeegboapkaaGreatDoorHKG
namespace Go.Proofs.YtdlnoeegboapkaaGreatDoor
open Go.RowKit
set_option linter.unusedVariables false
set_option maxHeartbeats 40000000
set_option maxRecDepth 100000
set_option synthInstance.maxHeartbeats 1000000
set_option synthInstance.maxSize 100000
section
theorem refCollinear {w : World} {gx1 gy1 gz1 : Bool} {ax1 ay1 az1 : Option Addr} {lx1 cx1 ly1 cy1 lz1 cz1 : Nat} {gx2 gy2 gz2 : Bool} {ax2 ay2 az2 : Option Addr} {lx2 cx2 ly2 cy2 lz2 cz2 : Nat} {f g : FG} {k : Nat} [jx1 : CZ w (.agg #[.bool gx1, .slice ax1 lx1 cx1]) f.a k] [jy1 : CZ w (.agg #[.bool gy1, .slice ay1 ly1 cy1]) f.b k] [jz1 : CZ w (.agg #[.bool gz1, .slice az1 lz1 cz1]) f.c k] [jx2 : CZ w (.agg #[.bool gx2, .slice ax2 lx2 cx2]) g.a k] [jy2 : CZ w (.agg #[.bool gy2, .slice ay2 ly2 cy2]) g.b k] [jz2 : CZ w (.agg #[.bool gz2, .slice az2 lz2 cz2]) g.c k] (b : k ≤ 3000) {v : Bool} (hv : Hid ((SmL f g ∨ OpL f g) ↔ v = true)) :
    Calls Tryz.prog 172 #[.agg #[.bool gx1, .slice ax1 lx1 cx1, .bool gy1, .slice ay1 ly1 cy1, .bool gz1, .slice az1 lz1 cz1], .agg #[.bool gx2, .slice ax2 lx2 cx2, .bool gy2, .slice ay2 ly2 cy2, .bool gz2, .slice az2 lz2 cz2]] w (fun e w' => e = .returned (.bool v) ∧ Below w.heap.size w w') := by
  obtain ⟨c, hc⟩ : ∃ c, cmpL ((f.a : Int) : Rat) ((f.b : Int) : Rat) ((f.c : Int) : Rat) (((g.a : Int)) : Rat) (((g.b : Int)) : Rat) (((g.c : Int)) : Rat) = c := ⟨_, rfl⟩; obtain ⟨d, hd⟩ : ∃ d, cmpL ((f.a : Int) : Rat) ((f.b : Int) : Rat) ((f.c : Int) : Rat) (((-g.a : Int)) : Rat) (((-g.b : Int)) : Rat) (((-g.c : Int)) : Rat) = d := ⟨_, rfl⟩; have HC := Lib.hid hc; have HD := Lib.hid hd
  have e1 : c = 0 ↔ SmL f g := by
    have h := @cmpL_zero (f.a : Rat) f.b f.c (g.a : Rat) g.b g.c
    rw [hc] at h; unfold SmL; rw [← beq_iff_eq (a := c) (b := 0), h, decide_eq_true_iff, Rat.intCast_inj, Rat.intCast_inj, Rat.intCast_inj]
  have e2 : d = 0 ↔ OpL f g := by
    have h := @cmpL_zero (f.a : Rat) f.b f.c ((-g.a : Int) : Rat) ((-g.b : Int) : Rat) ((-g.c : Int) : Rat)
    rw [hd] at h; unfold OpL; rw [← beq_iff_eq (a := d) (b := 0), h, decide_eq_true_iff, Rat.intCast_inj, Rat.intCast_inj, Rat.intCast_inj]
  have HV : Hid ((c = 0 ∨ d = 0) ↔ v = true) := Lib.hid (by rw [e1, e2]; exact hv.out)
  clear hc hd e1 e2 hv
  by_cases h1 : c = 0
  · subst h1
    have hv1 : v = true := HV.out.1 (.inl rfl)
    subst hv1; go_enter Tryz.func172, Tryz.ntmps172; go_wp2_with fail; refine rgn [] [] fun hH => ?_; refine tk 0 hH ?_; refine tk 1 hH ?_; refine st 2 fun K hK => ?_; go_simp; (with_reducible refine Calls.cE (refCmpV (by omega) HC) ?_); intros; refine hd hK ?_; clear hH hK K; intro hH; refine tk 3 hH ?_; refine tk 4 hH ?_; refine tkU 5 hH ?_; refine tkU 6 hH ?_; refine tkU 7 hH ?_; refine tkU 8 hH ?_; refine tkU 9 hH ?_; refine tk 10 hH ?_; refine tk 11 hH ?_; refine dn ?_; clear hH; go_wp2_with fail; go_ret; exact E.fin rfl
  · have h1b : (c == 0) = false := beq_false_of_ne h1
    by_cases h2 : d = 0
    · subst h2
      have hv1 : v = true := HV.out.1 (.inr rfl)
      subst hv1; go_enter Tryz.func172, Tryz.ntmps172; go_wp2_with fail; refine rgn [] [] fun hH => ?_; refine tk 0 hH ?_; refine tk 1 hH ?_; refine st 2 fun K hK => ?_; go_simp; (with_reducible refine Calls.cE (refCmpV (by omega) HC) ?_); intros; refine hd hK ?_; clear hH hK K; intro hH; refine tk 3 hH ?_; refine tk 4 hH ?_; refine tk 5 hH ?_; refine tk 6 hH ?_; refine st 7 fun K hK => ?_; go_simp; (with_reducible refine Calls.cLZ refRevC ?_); intros; refine hd hK ?_; clear hH hK K; intro hH; refine st 8 fun K hK => ?_; go_simp; (with_reducible refine Calls.cE (refCmpV (by omega) HD) ?_); intros; refine hd hK ?_; clear hH hK K; intro hH; refine tk 9 hH ?_; refine tk 10 hH ?_; refine tk 11 hH ?_; refine dn ?_; clear hH; go_wp2_with fail; go_ret; exact E.fin rfl
    · have h2b : (d == 0) = false := beq_false_of_ne h2
      have hv1 : v = false := by
        cases v
        · rfl
        · rcases HV.out.2 rfl with h | h
          · exact absurd h h1
          · exact absurd h h2
      subst hv1; go_enter Tryz.func172, Tryz.ntmps172; go_wp2_with fail; refine rgn [] [] fun hH => ?_; refine tk 0 hH ?_; refine tk 1 hH ?_; refine st 2 fun K hK => ?_; go_simp; (with_reducible refine Calls.cE (refCmpV (by omega) HC) ?_); intros; refine hd hK ?_; clear hH hK K; intro hH; refine tk 3 hH ?_; refine tk 4 hH ?_; refine tk 5 hH ?_; refine tk 6 hH ?_; refine st 7 fun K hK => ?_; go_simp; (with_reducible refine Calls.cLZ refRevC ?_); intros; refine hd hK ?_; clear hH hK K; intro hH; refine st 8 fun K hK => ?_; go_simp; (with_reducible refine Calls.cE (refCmpV (by omega) HD) ?_); intros; refine hd hK ?_; clear hH hK K; intro hH; refine tk 9 hH ?_; refine tk 10 hH ?_; refine tk 11 hH ?_; refine dn ?_; clear hH; go_wp2_with fail; go_ret; exact E.fin rfl
def FkVRet (w : World) (F : FG) (k : Nat) (e : Ending) (w' : World) : Prop := ∃ gx ax lx cx gy ay ly cy gz az lz cz gu au lu cu aau llu ccu gv av lv cv aav llv ccv, e = .returned (.agg #[.bool gx, .slice ax lx cx, .bool gy, .slice ay ly cy, .bool gz, .slice az lz cz, .bool gu, .slice au lu cu, .slice aau llu ccu, .bool gv, .slice av lv cv, .slice aav llv ccv, .bool false, .bool false]) ∧ CZ w' (.agg #[.bool gx, .slice ax lx cx]) (F.a) k ∧ CZ w' (.agg #[.bool gy, .slice ay ly cy]) (F.b) k ∧ CZ w' (.agg #[.bool gz, .slice az lz cz]) (F.c) k ∧ CQ w' (.agg #[.bool gu, .slice au lu cu, .slice aau llu ccu]) (F.lo) k ∧ CQ w' (.agg #[.bool gv, .slice av lv cv, .slice aav llv ccv]) (F.hi) k ∧ Below w.heap.size w w'
theorem Calls.cFkV {P : Program} {f : FuncId} {args : Array Value} {w : World} {F : FG} {k : Nat} {K : Ending → World → Prop} (h : Calls P f args w (FkVRet w F k))
    (hK : ∀ w' [Kp1 w w'] (gx : Bool) (ax : Option Addr) (lx : Nat) (cx : Nat) (gy : Bool) (ay : Option Addr) (ly : Nat) (cy : Nat) (gz : Bool) (az : Option Addr) (lz : Nat) (cz : Nat) (gu : Bool) (au : Option Addr) (lu : Nat) (cu : Nat) (aau : Option Addr) (llu : Nat) (ccu : Nat) (gv : Bool) (av : Option Addr) (lv : Nat) (cv : Nat) (aav : Option Addr) (llv : Nat) (ccv : Nat) [CZ w' (.agg #[.bool gx, .slice ax lx cx]) (F.a) k] [CZ w' (.agg #[.bool gy, .slice ay ly cy]) (F.b) k] [CZ w' (.agg #[.bool gz, .slice az lz cz]) (F.c) k] [CQ w' (.agg #[.bool gu, .slice au lu cu, .slice aau llu ccu]) (F.lo) k] [CQ w' (.agg #[.bool gv, .slice av lv cv, .slice aav llv ccv]) (F.hi) k], K (.returned (.agg #[.bool gx, .slice ax lx cx, .bool gy, .slice ay ly cy, .bool gz, .slice az lz cz, .bool gu, .slice au lu cu, .slice aau llu ccu, .bool gv, .slice av lv cv, .slice aav llv ccv, .bool false, .bool false])) w') : Calls P f args w K := by
  refine h.mono ?_
  rintro e w' ⟨gx, ax, lx, cx, gy, ay, ly, cy, gz, az, lz, cz, gu, au, lu, cu, aau, llu, ccu, gv, av, lv, cv, aav, llv, ccv, rfl, hx, hy, hz, hu, hv, hb⟩
  exact @hK w' ⟨hb⟩ gx ax lx cx gy ay ly cy gz az lz cz gu au lu cu aau llu ccu gv av lv cv aav llv ccv hx hy hz hu hv
theorem FkVRet.fin {w w' : World} {F : FG} {gx : Bool} {ax : Option Addr} {lx : Nat} {cx : Nat} {gy : Bool} {ay : Option Addr} {ly : Nat} {cy : Nat} {gz : Bool} {az : Option Addr} {lz : Nat} {cz : Nat} {gu : Bool} {au : Option Addr} {lu : Nat} {cu : Nat} {aau : Option Addr} {llu : Nat} {ccu : Nat} {gv : Bool} {av : Option Addr} {lv : Nat} {cv : Nat} {aav : Option Addr} {llv : Nat} {ccv : Nat} {sx : Int} {kx : Nat} {sy : Int} {ky : Nat} {sz : Int} {kz : Nat} {su : Rat} {ku : Nat} {sv : Rat} {kv : Nat} {k : Nat} [b : Kp w w'] [hx : CZ w' (.agg #[.bool gx, .slice ax lx cx]) sx kx] [hy : CZ w' (.agg #[.bool gy, .slice ay ly cy]) sy ky] [hz : CZ w' (.agg #[.bool gz, .slice az lz cz]) sz kz] [hu : CQ w' (.agg #[.bool gu, .slice au lu cu, .slice aau llu ccu]) su ku] [hv : CQ w' (.agg #[.bool gv, .slice av lv cv, .slice aav llv ccv]) sv kv] (ex : sx = F.a) (mx : kx ≤ k) (ey : sy = F.b) (my : ky ≤ k) (ez : sz = F.c) (mz : kz ≤ k) (eu : su = F.lo) (mu : ku ≤ k) (ev : sv = F.hi) (mv : kv ≤ k) : FkVRet w F k (.returned (.agg #[.bool gx, .slice ax lx cx, .bool gy, .slice ay ly cy, .bool gz, .slice az lz cz, .bool gu, .slice au lu cu, .slice aau llu ccu, .bool gv, .slice av lv cv, .slice aav llv ccv, .bool false, .bool false])) w' :=
  ⟨_, _, _, _, _, _, _, _, _, _, _, _, _, _, _, _, _, _, _, _, _, _, _, _, _, _, rfl, hx.cast ex mx, hy.cast ey my, hz.cast ez mz, hu.cast eu mu, hv.cast ev mv, b.out⟩
def SpQRet (w : World) (x y : Rat) (k : Nat) (e : Ending) (w' : World) : Prop := ∃ gu au lu cu aau llu ccu gv av lv cv aav llv ccv, e = .returned (.agg #[.bool gu, .slice au lu cu, .slice aau llu ccu, .bool gv, .slice av lv cv, .slice aav llv ccv, .bool false, .bool false]) ∧ CQ w' (.agg #[.bool gu, .slice au lu cu, .slice aau llu ccu]) x k ∧ CQ w' (.agg #[.bool gv, .slice av lv cv, .slice aav llv ccv]) y k ∧ Below w.heap.size w w'
theorem Calls.cSpQ {P : Program} {f : FuncId} {args : Array Value} {w : World} {x y : Rat} {k : Nat} {K : Ending → World → Prop} (h : Calls P f args w (SpQRet w x y k))
    (hK : ∀ w' [Kp1 w w'] (gu : Bool) (au : Option Addr) (lu cu : Nat) (aau : Option Addr) (llu ccu : Nat) (gv : Bool) (av : Option Addr) (lv cv : Nat) (aav : Option Addr) (llv ccv : Nat) [CQ w' (.agg #[.bool gu, .slice au lu cu, .slice aau llu ccu]) x k] [CQ w' (.agg #[.bool gv, .slice av lv cv, .slice aav llv ccv]) y k], K (.returned (.agg #[.bool gu, .slice au lu cu, .slice aau llu ccu, .bool gv, .slice av lv cv, .slice aav llv ccv, .bool false, .bool false])) w') : Calls P f args w K := by
  refine h.mono ?_
  rintro e w' ⟨gu, au, lu, cu, aau, llu, ccu, gv, av, lv, cv, aav, llv, ccv, rfl, hx, hy, hb⟩
  exact @hK w' ⟨hb⟩ gu au lu cu aau llu ccu gv av lv cv aav llv ccv hx hy
theorem SpQRet.fin {w w' : World} {gu gv : Bool} {au aau av aav : Option Addr} {lu cu llu ccu lv cv llv ccv : Nat} {x x' y y' : Rat} {k kx ky : Nat} [b : Kp w w'] [hx : CQ w' (.agg #[.bool gu, .slice au lu cu, .slice aau llu ccu]) x kx] [hy : CQ w' (.agg #[.bool gv, .slice av lv cv, .slice aav llv ccv]) y ky] (ex : x = x') (mx : kx ≤ k) (ey : y = y') (my : ky ≤ k) : SpQRet w x' y' k (.returned (.agg #[.bool gu, .slice au lu cu, .slice aau llu ccu, .bool gv, .slice av lv cv, .slice aav llv ccv, .bool false, .bool false])) w' :=
  ⟨_, _, _, _, _, _, _, _, _, _, _, _, _, _, rfl, hx.cast ex mx, hy.cast ey my, b.out⟩
theorem refRevF {w : World} {gx1 gy1 gz1 : Bool} {ax1 ay1 az1 : Option Addr} {lx1 cx1 ly1 cy1 lz1 cz1 : Nat} {gu1 gv1 : Bool} {au1 aau1 av1 aav1 : Option Addr} {lu1 cu1 llu1 ccu1 lv1 cv1 llv1 ccv1 : Nat} {f : FG} {k : Nat} [jx1 : CZ w (.agg #[.bool gx1, .slice ax1 lx1 cx1]) f.a k] [jy1 : CZ w (.agg #[.bool gy1, .slice ay1 ly1 cy1]) f.b k] [jz1 : CZ w (.agg #[.bool gz1, .slice az1 lz1 cz1]) f.c k] [ju1 : CQ w (.agg #[.bool gu1, .slice au1 lu1 cu1, .slice aau1 llu1 ccu1]) f.lo k] [jv1 : CQ w (.agg #[.bool gv1, .slice av1 lv1 cv1, .slice aav1 llv1 ccv1]) f.hi k] :
    Calls Tryz.prog 242 #[.agg #[.bool gx1, .slice ax1 lx1 cx1, .bool gy1, .slice ay1 ly1 cy1, .bool gz1, .slice az1 lz1 cz1, .bool gu1, .slice au1 lu1 cu1, .slice aau1 llu1 ccu1, .bool gv1, .slice av1 lv1 cv1, .slice aav1 llv1 ccv1, .bool false, .bool false]] w (FkVRet w ⟨-f.a, -f.b, -f.c, -f.hi, -f.lo⟩ k) := by
  go_enter Tryz.func242, Tryz.ntmps242
  go_upto_region 6 with (first
    | (go_at_call 203; (with_reducible refine Calls.cQ numOppC ?_); intros))
  refine rgn [w.heap.size + 1] [] fun hH => ?_; refine tk 0 hH ?_; refine tk 1 hH ?_; refine tk 3 hH ?_; refine st 2 fun K hK => ?_; go_simp; (with_reducible refine Calls.cLZ refRevC ?_); intros; refine hd hK ?_; clear hH hK K; intro hH; refine tk 4 hH ?_; refine st 5 fun K hK => ?_; go_simp; refine hd hK ?_; clear hH hK K; intro hH; refine dn ?_; clear hH; go_wp2_with fail; refine ret_bx rfl Tryz.underlying167 rfl (by kernel_rfl) rfl rfl rfl ?_; exact FkVRet.fin rfl (by omega) rfl (by omega) rfl (by omega) rfl (by omega) rfl (by omega)
end
section
theorem refOntoS {w : World} {gx1 gy1 gz1 : Bool} {ax1 ay1 az1 : Option Addr} {lx1 cx1 ly1 cy1 lz1 cz1 : Nat} {gx2 gy2 gz2 : Bool} {ax2 ay2 az2 : Option Addr} {lx2 cx2 ly2 cy2 lz2 cz2 : Nat} {gu2 gv2 : Bool} {au2 aau2 av2 aav2 : Option Addr} {lu2 cu2 llu2 ccu2 lv2 cv2 llv2 ccv2 : Nat} {f g : FG} {k : Nat} [jx1 : CZ w (.agg #[.bool gx1, .slice ax1 lx1 cx1]) f.a k] [jy1 : CZ w (.agg #[.bool gy1, .slice ay1 ly1 cy1]) f.b k] [jz1 : CZ w (.agg #[.bool gz1, .slice az1 lz1 cz1]) f.c k] [jx2 : CZ w (.agg #[.bool gx2, .slice ax2 lx2 cx2]) g.a k] [jy2 : CZ w (.agg #[.bool gy2, .slice ay2 ly2 cy2]) g.b k] [jz2 : CZ w (.agg #[.bool gz2, .slice az2 lz2 cz2]) g.c k] [ju2 : CQ w (.agg #[.bool gu2, .slice au2 lu2 cu2, .slice aau2 llu2 ccu2]) g.lo k] [jv2 : CQ w (.agg #[.bool gv2, .slice av2 lv2 cv2, .slice aav2 llv2 ccv2]) g.hi k] (b : k ≤ 3000) (hk : SmL f g) :
    Calls Tryz.prog 174 #[.agg #[.bool gx1, .slice ax1 lx1 cx1, .bool gy1, .slice ay1 ly1 cy1, .bool gz1, .slice az1 lz1 cz1], .agg #[.bool gx2, .slice ax2 lx2 cx2, .bool gy2, .slice ay2 ly2 cy2, .bool gz2, .slice az2 lz2 cz2, .bool gu2, .slice au2 lu2 cu2, .slice aau2 llu2 ccu2, .bool gv2, .slice av2 lv2 cv2, .slice aav2 llv2 ccv2, .bool false, .bool false]] w (SpQRet w g.lo g.hi k) := by
  obtain ⟨c, hc⟩ : ∃ c, cmpL ((f.a : Int) : Rat) ((f.b : Int) : Rat) ((f.c : Int) : Rat) (((g.a : Int)) : Rat) (((g.b : Int)) : Rat) (((g.c : Int)) : Rat) = c := ⟨_, rfl⟩; have HC := Lib.hid hc
  have e1 : c = 0 ↔ SmL f g := by
    have h := @cmpL_zero (f.a : Rat) f.b f.c (g.a : Rat) g.b g.c
    rw [hc] at h; unfold SmL; rw [← beq_iff_eq (a := c) (b := 0), h, decide_eq_true_iff, Rat.intCast_inj, Rat.intCast_inj, Rat.intCast_inj]
  clear hc
  have h0 := e1.2 hk
  clear e1 hk; subst h0; go_enter Tryz.func174, Tryz.ntmps174
  go_wp2_with (first
    | (go_at_call 236; (with_reducible refine Calls.cE (refCmpV (by omega) HC) ?_); intros))
  refine ret_bx rfl Tryz.underlying165 rfl (by kernel_rfl) rfl rfl rfl ?_; exact SpQRet.fin rfl (by omega) rfl (by omega)
theorem refOntoO {w : World} {gx1 gy1 gz1 : Bool} {ax1 ay1 az1 : Option Addr} {lx1 cx1 ly1 cy1 lz1 cz1 : Nat} {gx2 gy2 gz2 : Bool} {ax2 ay2 az2 : Option Addr} {lx2 cx2 ly2 cy2 lz2 cz2 : Nat} {gu2 gv2 : Bool} {au2 aau2 av2 aav2 : Option Addr} {lu2 cu2 llu2 ccu2 lv2 cv2 llv2 ccv2 : Nat} {f g : FG} {k : Nat} [jx1 : CZ w (.agg #[.bool gx1, .slice ax1 lx1 cx1]) f.a k] [jy1 : CZ w (.agg #[.bool gy1, .slice ay1 ly1 cy1]) f.b k] [jz1 : CZ w (.agg #[.bool gz1, .slice az1 lz1 cz1]) f.c k] [jx2 : CZ w (.agg #[.bool gx2, .slice ax2 lx2 cx2]) g.a k] [jy2 : CZ w (.agg #[.bool gy2, .slice ay2 ly2 cy2]) g.b k] [jz2 : CZ w (.agg #[.bool gz2, .slice az2 lz2 cz2]) g.c k] [ju2 : CQ w (.agg #[.bool gu2, .slice au2 lu2 cu2, .slice aau2 llu2 ccu2]) g.lo k] [jv2 : CQ w (.agg #[.bool gv2, .slice av2 lv2 cv2, .slice aav2 llv2 ccv2]) g.hi k] (b : k ≤ 3000) (hk : OpL f g) (hn : ¬ SmL f g) :
    Calls Tryz.prog 174 #[.agg #[.bool gx1, .slice ax1 lx1 cx1, .bool gy1, .slice ay1 ly1 cy1, .bool gz1, .slice az1 lz1 cz1], .agg #[.bool gx2, .slice ax2 lx2 cx2, .bool gy2, .slice ay2 ly2 cy2, .bool gz2, .slice az2 lz2 cz2, .bool gu2, .slice au2 lu2 cu2, .slice aau2 llu2 ccu2, .bool gv2, .slice av2 lv2 cv2, .slice aav2 llv2 ccv2, .bool false, .bool false]] w (SpQRet w (-g.hi) (-g.lo) k) := by
  obtain ⟨c, hc⟩ : ∃ c, cmpL ((f.a : Int) : Rat) ((f.b : Int) : Rat) ((f.c : Int) : Rat) (((g.a : Int)) : Rat) (((g.b : Int)) : Rat) (((g.c : Int)) : Rat) = c := ⟨_, rfl⟩; have HC := Lib.hid hc
  have e1 : c = 0 ↔ SmL f g := by
    have h := @cmpL_zero (f.a : Rat) f.b f.c (g.a : Rat) g.b g.c
    rw [hc] at h; unfold SmL; rw [← beq_iff_eq (a := c) (b := 0), h, decide_eq_true_iff, Rat.intCast_inj, Rat.intCast_inj, Rat.intCast_inj]
  clear hc
  have h0 : (c == 0) = false := beq_false_of_ne (fun h => hn (e1.1 h))
  clear e1 hk hn
  have hfld : ∀ (x0 x1 x2 x3 x4 x5 x6 x7 x8 x9 x10 x11 x12 x13 : Value) (W : World), (Instr.field 167 (.agg #[x0, x1, x2, x3, x4, x5, x6, x7, x8, x9, x10, x11, x12, x13]) 1).run Tryz.prog W = .ok (.agg #[x6, x7, x8, x9, x10, x11, x12, x13]) W := fun _ _ _ _ _ _ _ _ _ _ _ _ _ _ _ => by kernel_rfl
  go_enter Tryz.func174, Tryz.ntmps174
  go_wp2_with (first
    | (go_at_call 236; (with_reducible refine Calls.cE (refCmpV (by omega) HC) ?_); intros)
    | (go_at_call 242; (with_reducible refine Calls.cFkV (refRevF (f := g)) ?_); intros))
  refine ret_bx rfl Tryz.underlying165 rfl (by kernel_rfl) rfl rfl rfl ?_; exact SpQRet.fin rfl (by omega) rfl (by omega)
end
end Go.Proofs.YtdlnoeegboapkaaGreatDoor
