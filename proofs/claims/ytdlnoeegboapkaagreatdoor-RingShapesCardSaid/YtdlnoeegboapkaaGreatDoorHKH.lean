/-
  Texts of this claim, joined: Rg15, Rg16, Rg17.
-/
import Derived.Test.YtdlnoeegboapkaaGreatDoorCO
import Derived.Test.YtdlnoeegboapkaaGreatDoorHKG
namespace Go.Proofs.YtdlnoeegboapkaaGreatDoor
open Go.RowKit
set_option linter.unusedVariables false
set_option maxHeartbeats 40000000
set_option maxRecDepth 100000
set_option synthInstance.maxHeartbeats 1000000
set_option synthInstance.maxSize 100000
section
def FkBRet (w : World) (F : FG) (k : Nat) (e : Ending) (w' : World) : Prop := ∃ gx ax lx cx gy ay ly cy gz az lz cz gu au lu cu aau llu ccu gv av lv cv aav llv ccv, e = .returned (.tuple #[.agg #[.bool gx, .slice ax lx cx, .bool gy, .slice ay ly cy, .bool gz, .slice az lz cz, .bool gu, .slice au lu cu, .slice aau llu ccu, .bool gv, .slice av lv cv, .slice aav llv ccv, .bool false, .bool false], .bool true]) ∧ CZ w' (.agg #[.bool gx, .slice ax lx cx]) (F.a) k ∧ CZ w' (.agg #[.bool gy, .slice ay ly cy]) (F.b) k ∧ CZ w' (.agg #[.bool gz, .slice az lz cz]) (F.c) k ∧ CQ w' (.agg #[.bool gu, .slice au lu cu, .slice aau llu ccu]) (F.lo) k ∧ CQ w' (.agg #[.bool gv, .slice av lv cv, .slice aav llv ccv]) (F.hi) k ∧ Below w.heap.size w w'
theorem Calls.cFkB {P : Program} {f : FuncId} {args : Array Value} {w : World} {F : FG} {k : Nat} {K : Ending → World → Prop} (h : Calls P f args w (FkBRet w F k))
    (hK : ∀ w' [Kp1 w w'] (gx : Bool) (ax : Option Addr) (lx : Nat) (cx : Nat) (gy : Bool) (ay : Option Addr) (ly : Nat) (cy : Nat) (gz : Bool) (az : Option Addr) (lz : Nat) (cz : Nat) (gu : Bool) (au : Option Addr) (lu : Nat) (cu : Nat) (aau : Option Addr) (llu : Nat) (ccu : Nat) (gv : Bool) (av : Option Addr) (lv : Nat) (cv : Nat) (aav : Option Addr) (llv : Nat) (ccv : Nat) [CZ w' (.agg #[.bool gx, .slice ax lx cx]) (F.a) k] [CZ w' (.agg #[.bool gy, .slice ay ly cy]) (F.b) k] [CZ w' (.agg #[.bool gz, .slice az lz cz]) (F.c) k] [CQ w' (.agg #[.bool gu, .slice au lu cu, .slice aau llu ccu]) (F.lo) k] [CQ w' (.agg #[.bool gv, .slice av lv cv, .slice aav llv ccv]) (F.hi) k], K (.returned (.tuple #[.agg #[.bool gx, .slice ax lx cx, .bool gy, .slice ay ly cy, .bool gz, .slice az lz cz, .bool gu, .slice au lu cu, .slice aau llu ccu, .bool gv, .slice av lv cv, .slice aav llv ccv, .bool false, .bool false], .bool true])) w') : Calls P f args w K := by
  refine h.mono ?_
  rintro e w' ⟨gx, ax, lx, cx, gy, ay, ly, cy, gz, az, lz, cz, gu, au, lu, cu, aau, llu, ccu, gv, av, lv, cv, aav, llv, ccv, rfl, hx, hy, hz, hu, hv, hb⟩
  exact @hK w' ⟨hb⟩ gx ax lx cx gy ay ly cy gz az lz cz gu au lu cu aau llu ccu gv av lv cv aav llv ccv hx hy hz hu hv
theorem FkBRet.fin {w w' : World} {F : FG} {gx : Bool} {ax : Option Addr} {lx : Nat} {cx : Nat} {gy : Bool} {ay : Option Addr} {ly : Nat} {cy : Nat} {gz : Bool} {az : Option Addr} {lz : Nat} {cz : Nat} {gu : Bool} {au : Option Addr} {lu : Nat} {cu : Nat} {aau : Option Addr} {llu : Nat} {ccu : Nat} {gv : Bool} {av : Option Addr} {lv : Nat} {cv : Nat} {aav : Option Addr} {llv : Nat} {ccv : Nat} {sx : Int} {kx : Nat} {sy : Int} {ky : Nat} {sz : Int} {kz : Nat} {su : Rat} {ku : Nat} {sv : Rat} {kv : Nat} {k : Nat} [b : Kp w w'] [hx : CZ w' (.agg #[.bool gx, .slice ax lx cx]) sx kx] [hy : CZ w' (.agg #[.bool gy, .slice ay ly cy]) sy ky] [hz : CZ w' (.agg #[.bool gz, .slice az lz cz]) sz kz] [hu : CQ w' (.agg #[.bool gu, .slice au lu cu, .slice aau llu ccu]) su ku] [hv : CQ w' (.agg #[.bool gv, .slice av lv cv, .slice aav llv ccv]) sv kv] (ex : sx = F.a) (mx : kx ≤ k) (ey : sy = F.b) (my : ky ≤ k) (ez : sz = F.c) (mz : kz ≤ k) (eu : su = F.lo) (mu : ku ≤ k) (ev : sv = F.hi) (mv : kv ≤ k) : FkBRet w F k (.returned (.tuple #[.agg #[.bool gx, .slice ax lx cx, .bool gy, .slice ay ly cy, .bool gz, .slice az lz cz, .bool gu, .slice au lu cu, .slice aau llu ccu, .bool gv, .slice av lv cv, .slice aav llv ccv, .bool false, .bool false], .bool true])) w' :=
  ⟨_, _, _, _, _, _, _, _, _, _, _, _, _, _, _, _, _, _, _, _, _, _, _, _, _, _, rfl, hx.cast ex mx, hy.cast ey my, hz.cast ez mz, hu.cast eu mu, hv.cast ev mv, b.out⟩
def phiK (F : FG) (k : Nat) (u : Value) (W : World) : Prop := ∃ gx ax lx cx gy ay ly cy gz az lz cz gu au lu cu aau llu ccu gv av lv cv aav llv ccv, u = .tuple #[.agg #[.bool gx, .slice ax lx cx, .bool gy, .slice ay ly cy, .bool gz, .slice az lz cz, .bool gu, .slice au lu cu, .slice aau llu ccu, .bool gv, .slice av lv cv, .slice aav llv ccv, .bool false, .bool false], .bool true] ∧ CZ W (.agg #[.bool gx, .slice ax lx cx]) (F.a) k ∧ CZ W (.agg #[.bool gy, .slice ay ly cy]) (F.b) k ∧ CZ W (.agg #[.bool gz, .slice az lz cz]) (F.c) k ∧ CQ W (.agg #[.bool gu, .slice au lu cu, .slice aau llu ccu]) (F.lo) k ∧ CQ W (.agg #[.bool gv, .slice av lv cv, .slice aav llv ccv]) (F.hi) k
instance {F : FG} {k : Nat} : Last (phiK F k) := ⟨fun _ _ _ hb ⟨gx, ax, lx, cx, gy, ay, ly, cy, gz, az, lz, cz, gu, au, lu, cu, aau, llu, ccu, gv, av, lv, cv, aav, llv, ccv, e, h1, h2, h3, h4, h5⟩ => have := Kp1.mk hb; ⟨_, _, _, _, _, _, _, _, _, _, _, _, _, _, _, _, _, _, _, _, _, _, _, _, _, _, e, inferInstance, inferInstance, inferInstance, inferInstance, inferInstance⟩⟩
theorem refSegC {w : World} {g1x g1y g2x g2y : Bool} {a1x aa1x a1y aa1y a2x aa2x a2y aa2y : Option Addr} {l1x c1x ll1x cc1x l1y c1y ll1y cc1y l2x c2x ll2x cc2x l2y c2y ll2y cc2y k1x k1y k2x k2y : Nat} {x1 y1 x2 y2 : Rat} [h1x : CQ w (.agg #[.bool g1x, .slice a1x l1x c1x, .slice aa1x ll1x cc1x]) x1 k1x] [h1y : CQ w (.agg #[.bool g1y, .slice a1y l1y c1y, .slice aa1y ll1y cc1y]) y1 k1y] [h2x : CQ w (.agg #[.bool g2x, .slice a2x l2x c2x, .slice aa2x ll2x cc2x]) x2 k2x] [h2y : CQ w (.agg #[.bool g2y, .slice a2y l2y c2y, .slice aa2y ll2y cc2y]) y2 k2y] (b : k1x ≤ 100 ∧ k1y ≤ 100 ∧ k2x ≤ 100 ∧ k2y ≤ 100) {k : Nat} (hk : k1x ≤ k ∧ k1y ≤ k ∧ k2x ≤ k ∧ k2y ≤ k) (hk2 : k ≤ 20) (hne : Hid ((x1, y1) ≠ (x2, y2))) :
    Calls Tryz.prog 98 #[.agg #[.bool g1x, .slice a1x l1x c1x, .slice aa1x ll1x cc1x, .bool g1y, .slice a1y l1y c1y, .slice aa1y ll1y cc1y], .agg #[.bool g2x, .slice a2x l2x c2x, .slice aa2x ll2x cc2x, .bool g2y, .slice a2y l2y c2y, .slice aa2y ll2y cc2y]] w (FkBRet w (segG (x1, y1) (x2, y2)) (122 * k + 1980)) := by
  have h0 : Hid (¬ (thA y1 y2 = 0 ∧ x2 - x1 = 0)) := Lib.hid (th_ne2 hne.out)
  have hv : Hid (LnV (lnK (thA y1 y2) (thA y1 y2) (x2 - x1) (thC x1 y1 x2 y2)).num (lnK (x2 - x1) (thA y1 y2) (x2 - x1) (thC x1 y1 x2 y2)).num (lnK (thC x1 y1 x2 y2) (thA y1 y2) (x2 - x1) (thC x1 y1 x2 y2)).num) := Lib.hid (segG_G hne.out).1
  go_enter Tryz.func98, Tryz.ntmps98
  go_wp2_with (first
    | (go_at_call 160; (with_reducible refine Calls.cLZB (refThroughOk (by omega) h0) ?_); intros))
  refine rgn [w.heap.size + 1 + 1] [] fun hH => ?_; refine tk 0 hH ?_; refine tk 1 hH ?_; refine tk 2 hH ?_; refine tk 4 hH ?_; refine tk 5 hH ?_; refine st 3 fun K hK => ?_; go_simp; (with_reducible refine Calls.cQ (refParamC (by omega) hv) ?_); intros; refine hd hK ?_; clear hH hK K; intro hH; refine st 6 fun K hK => ?_; go_simp; (with_reducible refine Calls.cQ (refParamC (by omega) hv) ?_); intros; refine hd hK ?_; clear hH hK K; intro hH; refine tk 7 hH ?_; refine tk 8 hH ?_; refine st 9 fun K hK => ?_; go_simp; refine hd hK ?_; clear hH hK K; intro hH; refine tk 10 hH ?_; refine dn ?_; clear hH; go_wp2
  refine ret_b9 rfl Tryz.underlying167 rfl (by kernel_rfl) rfl rfl rfl ?_
  exact FkBRet.fin rfl (by omega) rfl (by omega) rfl (by omega) par_x.symm (by omega) par_x.symm (by omega)
theorem refEdgesC {w w0 : World} {a : Option Addr} {n c : Nat} {V : List AV} {L : List (Rat × Rat)} {k : Nat} [hs : Sl w (.slice a n c) V.length (rowA V) w0] [hp : PsQ w V L k] (hk : k ≤ 20) (hV : V.length ≤ 1000) (hE : ∀ i, i < L.length → pg L i ≠ pg L ((i + 1) % L.length)) :
    Calls Tryz.prog 38 #[.slice a n c] w (FsKRet w (edgesL L) (122 * k + 1980)) := by
  obtain rfl := hs.len; have hlen := Lib.hid hp.len; have HE := Lib.hid hE; clear hE; go_enter Tryz.func38, Tryz.ntmps38; go_wp2_with fail
  go_loopw [9, 3] (fun i o wr => ∃ (q : Nat) (U : List HV), i = .int .i64 (q : Int) ∧ q ≤ V.length ∧ Rn wr o 167 14 U.length (rowH U) w.heap.size wr ∧ Hid (U.length = q) ∧ FsK wr U ((List.range q).map (edgeF L)) (122 * k + 1980) ∧ Kp w wr) (fun i _ _ => V.length - (intOf i).toNat)
  case atStart => exact ⟨0, [], rfl, by omega, Rn.nil (Nat.le_refl _), Lib.hid rfl, FsK.nil, inferInstance⟩
  case round =>
    obtain ⟨q, U, rfl, hq, i1, hU, i2, i3⟩ := hrel; have kw := Kp1.mk i3.out
    by_cases hlt : q < V.length
    · obtain ⟨g, rfl, hA⟩ := hs.form (by omega); have hlt' : (q : Int) < V.length := (by omega); have lq : LtN q V.length := ⟨hlt⟩
      have ew : IntKind.i64.wrap ((q : Int) + 1) = (q : Int) + 1 := wr_in (by omega) (by omega)
      obtain ⟨m, hm0⟩ : ∃ m, (q + 1) % V.length = m := ⟨_, rfl⟩
      have hm : m < V.length := by rw [← hm0]; exact Nat.mod_lt _ (by omega)
      have lm : LtN m V.length := ⟨hm⟩; have hm' : (m : Int) < V.length := (by omega)
      have er : ((q : Int) + 1).tmod (V.length : Int) = (m : Int) := by
        rw [← hm0, show (q : Int) + 1 = ((q + 1 : Nat) : Int) by omega]; exact (Int.ofNat_tmod _ _).symm
      have HM := Lib.hid hm0; clear hm0; have hz : ¬ ((V.length : Int) = 0) := (by omega); have hz2 : ¬ (V.length = 0) := (by omega)
      have hne : Hid (((pg L q).1, (pg L q).2) ≠ ((pg L m).1, (pg L m).2)) := Lib.hid (by
        have := HE.out q (by rw [← hlen.out]; exact hlt)
        rw [← hlen.out, HM.out] at this
        exact this)
      go_upto_region 5 with fail
      go_cut [5, 6] from 12 to 27 (fun s t wx => ∃ (b5 : Nat) (gx : Bool) (ax : Option Addr) (lx : Nat) (cx : Nat) (gy : Bool) (ay : Option Addr) (ly : Nat) (cy : Nat) (gz : Bool) (az : Option Addr) (lz : Nat) (cz : Nat) (gu : Bool) (au : Option Addr) (lu : Nat) (cu : Nat) (aau : Option Addr) (llu : Nat) (ccu : Nat) (gv : Bool) (av : Option Addr) (lv : Nat) (cv : Nat) (aav : Option Addr) (llv : Nat) (ccv : Nat), s = .pointer (some ⟨b5, 0, none⟩) ∧ t = .bool true ∧ Bx wx b5 167 [.bool gx, .slice ax lx cx, .bool gy, .slice ay ly cy, .bool gz, .slice az lz cz, .bool gu, .slice au lu cu, .slice aau llu ccu, .bool gv, .slice av lv cv, .slice aav llv ccv, .bool false, .bool false] ∧ CZ wx (.agg #[.bool gx, .slice ax lx cx]) (segG ((pg L q).1, (pg L q).2) ((pg L m).1, (pg L m).2)).a (122 * k + 1980) ∧ CZ wx (.agg #[.bool gy, .slice ay ly cy]) (segG ((pg L q).1, (pg L q).2) ((pg L m).1, (pg L m).2)).b (122 * k + 1980) ∧ CZ wx (.agg #[.bool gz, .slice az lz cz]) (segG ((pg L q).1, (pg L q).2) ((pg L m).1, (pg L m).2)).c (122 * k + 1980) ∧ CQ wx (.agg #[.bool gu, .slice au lu cu, .slice aau llu ccu]) (segG ((pg L q).1, (pg L q).2) ((pg L m).1, (pg L m).2)).lo (122 * k + 1980) ∧ CQ wx (.agg #[.bool gv, .slice av lv cv, .slice aav llv ccv]) (segG ((pg L q).1, (pg L q).2) ((pg L m).1, (pg L m).2)).hi (122 * k + 1980) ∧ Kp wr wx)
      case first =>
        refine rgn [] [] fun hH => ?_; refine tk 0 hH ?_; refine tk 1 hH ?_; refine tk 2 hH ?_; refine tk 3 hH ?_; refine tk 4 hH ?_; refine tk 5 hH ?_; refine tk 6 hH ?_; refine tk 7 hH ?_; refine tk 8 hH ?_; refine tk 9 hH ?_; refine tk 10 hH ?_; refine tk 11 hH ?_; refine wpAnyT_ready (rs := [12, 16]) (by kernel_rfl) (by simp) ?_; refine AllT.cons (by simp; rfl) (fun K hK => ?_) (AllT.cons (by simp; rfl) (fun K hK => ?_) AllT.nil); go_simp; (with_reducible refine Calls.cFkB (refSegC (k := k) (by omega) (by omega) (by omega) hne) ?_); intros; refine hd hK ?_; clear hH hK K; intro hH; refine tk 13 hH ?_; refine tk 14 hH ?_; refine tk 15 hH ?_; refine st 16 fun K hK => ?_; go_simp; refine hd hK ?_; clear hH hK K; intro hH; refine st 17 fun K hK => ?_; go_simp; refine hd hK ?_; clear hH hK K; intro hH; refine tk 18 hH ?_; refine dn ?_; clear hH; go_wp2_with fail; go_meet; exact ⟨_, _, _, _, _, _, _, _, _, _, _, _, _, _, _, _, _, _, _, _, _, _, _, _, _, _, _, rfl, rfl, Bx.re rfl, inferInstance, inferInstance, inferInstance, inferInstance, inferInstance, inferInstance⟩; go_simp; refine hd hK ?_; clear hH hK K; intro hH; refine st 12 fun K hK => ?_; go_simp; (with_reducible refine Calls.cFkB (refSegC (k := k) (by omega) (by omega) (by omega) hne) ?_); intros; refine hd hK ?_; clear hH hK K; intro hH; refine tk 13 hH ?_; refine tk 14 hH ?_; refine tk 15 hH ?_; refine st 17 fun K hK => ?_; go_simp; refine hd hK ?_; clear hH hK K; intro hH; refine tk 18 hH ?_; refine dn ?_; clear hH; go_wp2_with fail; go_meet; exact ⟨_, _, _, _, _, _, _, _, _, _, _, _, _, _, _, _, _, _, _, _, _, _, _, _, _, _, _, rfl, rfl, Bx.re rfl, inferInstance, inferInstance, inferInstance, inferInstance, inferInstance, inferInstance⟩
      case rest =>
        obtain ⟨b5, gx, ax, lx, cx, gy, ay, ly, cy, gz, az, lz, cz, gu, au, lu, cu, aau, llu, ccu, gv, av, lv, cv, aav, llv, ccv, rfl, rfl, j0, j1, j2, j3, j4, j5, j6⟩ := hcut; have kx := Kp1.mk j6.out
        go_wp2_with (at_builtin; go_loud (refine app_rn1 (v := u3) rfl (.tmp 28) (.tmp 30) 80 rfl Tryz.underlying80 info_kr rfl (by decide) (by decide) (by decide) inferInstance rfl (rowH_nd _) rfl (by rfl) ?h1 ?h2 (by first | omega | (have := hU.out; omega)) ?_); (case h1 => exact HV.one ⟨_, _, _, _, _, _, _, _, _, _, _, _, _, _, _, _, _, _, _, _, _, _, _, _, _, _⟩); (case h2 => exact HV.nd ⟨_, _, _, _, _, _, _, _, _, _, _, _, _, _, _, _, _, _, _, _, _, _, _, _, _, _⟩); intro g2 c2 w2 i9 i10 i11)
        go_roundw
        case rel => exact ⟨q + 1, U ++ [⟨gx, ax, lx, cx, gy, ay, ly, cy, gz, az, lz, cz, gu, au, lu, cu, aau, llu, ccu, gv, av, lv, cv, aav, llv, ccv⟩], by go_num, by omega, Rn.cast2 (inferInstance) (by simp) (by rw [rowH_snoc]; rfl), Lib.hid (by rw [List.length_append, hU.out]; rfl), by rw [List.range_succ, List.map_append, List.map_cons, List.map_nil, edgeF, ← hlen.out, HM.out]; exact FsK.add (Nat.le_refl _) (Nat.le_refl _) (Nat.le_refl _) (Nat.le_refl _) (Nat.le_refl _), inferInstance⟩
        case measure => simp [intOf]; omega
    · obtain rfl : q = V.length := by omega
      obtain ⟨a3, c3, rfl⟩ := i1.slice; go_wp2_with fail; go_ret; exact FsKRet.fin (V := U) (by rw [edgesL, hlen.out]) (by omega)
end
section

end
section
theorem refHalfC {w : World} {g1 : Bool} {a1 aa1 : Option Addr} {l1 c1 ll1 cc1 k1 : Nat} {x : Rat} [h1 : CQ w (.agg #[.bool g1, .slice a1 l1 c1, .slice aa1 ll1 cc1]) x k1] (b : k1 ≤ 20000) :
    Calls Tryz.prog 104 #[.agg #[.bool g1, .slice a1 l1 c1, .slice aa1 ll1 cc1]] w (CQRet w (x / 2) (k1 + 10)) := by
  go_enter Tryz.func104, Tryz.ntmps104; go_wp2_with fail; refine rgn [w.heap.size + 1] [] fun hH => ?_; refine tk 0 hH ?_; refine st 1 fun K hK => ?_; go_simp; (with_reducible refine Calls.cQ (numOfC (by omega)) ?_); intros; refine hd hK ?_; clear hH hK K; intro hH; refine st 2 fun K hK => ?_; go_simp; (with_reducible refine Calls.cQ (numOverC (by omega) (by decide)) ?_); intros; refine hd hK ?_; clear hH hK K; intro hH; refine st 3 fun K hK => ?_; go_simp; refine hd hK ?_; clear hH hK K; intro hH; refine dn ?_; clear hH; go_wp2; refine ret_bx rfl Tryz.underlying45 rfl (by kernel_rfl) rfl rfl rfl ?_; exact CQRet.fin rfl (by omega)
end
end Go.Proofs.YtdlnoeegboapkaaGreatDoor
