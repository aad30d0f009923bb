/-
  Texts of this claim, joined: Rg16, Rg17.
-/
import Derived.Test.YtdlnoeegboapkaaGreatDoorHKJ
/- The reference's segments written, and compared. printed by a small program (mkrg15.py). -/
namespace Go.Proofs.YtdlnoeegboapkaaGreatDoor
open Go.RowKit
set_option maxRecDepth 100000
set_option maxHeartbeats 40000000
set_option synthInstance.maxSize 100000
set_option synthInstance.maxHeartbeats 1000000
set_option linter.unusedVariables false

theorem refWriteC {w : World} {gu : Bool} {au : Option Addr} {lu : Nat} {cu : Nat} {aau : Option Addr} {llu : Nat} {ccu : Nat} {gv : Bool} {av : Option Addr} {lv : Nat} {cv : Nat} {aav : Option Addr} {llv : Nat} {ccv : Nat} {x y : Rat} {k : Nat} [hx : CQ w (.agg #[.bool gu, .slice au lu cu, .slice aau llu ccu]) x k] [hy : CQ w (.agg #[.bool gv, .slice av lv cv, .slice aav llv ccv]) y k] (b : k ≤ 100000) :
    Calls Tryz.prog 159 #[.agg #[.bool gu, .slice au lu cu, .slice aau llu ccu, .bool gv, .slice av lv cv, .slice aav llv ccv, .bool false, .bool false]] w (SpARet w x y (k + 1)) := by
  go_enter Tryz.func159, Tryz.ntmps159
  go_wp2_with (first
    | (go_at_call 40; (with_reducible refine Calls.cA (toQC (by omega)) ?_); intros))
  refine ret_bx rfl Tryz.underlying158 rfl (by kernel_rfl) rfl rfl rfl ?_
  exact SpARet.fin rfl (by omega) rfl (by omega)
theorem refWriteFC {w : World} {gx : Bool} {ax : Option Addr} {lx : Nat} {cx : Nat} {gy : Bool} {ay : Option Addr} {ly : Nat} {cy : Nat} {gz : Bool} {az : Option Addr} {lz : Nat} {cz : Nat} {gu : Bool} {au : Option Addr} {lu : Nat} {cu : Nat} {aau : Option Addr} {llu : Nat} {ccu : Nat} {gv : Bool} {av : Option Addr} {lv : Nat} {cv : Nat} {aav : Option Addr} {llv : Nat} {ccv : Nat} {a b c : Int} {lo hi : Rat} {k : Nat} [hx : CZ w (.agg #[.bool gx, .slice ax lx cx]) a k] [hy : CZ w (.agg #[.bool gy, .slice ay ly cy]) b k] [hz : CZ w (.agg #[.bool gz, .slice az lz cz]) c k] [hu : CQ w (.agg #[.bool gu, .slice au lu cu, .slice aau llu ccu]) lo k] [hv : CQ w (.agg #[.bool gv, .slice av lv cv, .slice aav llv ccv]) hi k] (hk : k ≤ 100000) :
    Calls Tryz.prog 97 #[.agg #[.bool gx, .slice ax lx cx, .bool gy, .slice ay ly cy, .bool gz, .slice az lz cz, .bool gu, .slice au lu cu, .slice aau llu ccu, .bool gv, .slice av lv cv, .slice aav llv ccv, .bool false, .bool false]] w (FhVRet w ⟨a, b, c, lo, hi⟩ (k + 1)) := by
  go_enter Tryz.func97, Tryz.ntmps97
  go_wp2_with fail
  refine rgn [w.heap.size + 1] [] fun hHeld => ?_
  refine tk 0 hHeld ?_
  refine tk 1 hHeld ?_
  refine tk 3 hHeld ?_
  refine tk 4 hHeld ?_
  refine st 2 fun K hK => ?_
  go_simp
  (with_reducible refine Calls.cLZ (toLC (by omega)) ?_); intros
  refine hd hK ?_
  clear hHeld hK K
  intro hHeld
  refine st 5 fun K hK => ?_
  go_simp
  (with_reducible refine Calls.cSpA (refWriteC (k := k) (by omega)) ?_); intros
  refine hd hK ?_
  clear hHeld hK K
  intro hHeld
  refine tk 6 hHeld ?_
  refine st 7 fun K hK => ?_
  go_simp
  refine hd hK ?_
  clear hHeld hK K
  intro hHeld
  refine dn ?_
  clear hHeld
  go_wp2
  refine ret_bx rfl Tryz.underlying160 rfl (by kernel_rfl) rfl rfl rfl ?_
  exact FhVRet.fin rfl (by omega) rfl (by omega) rfl (by omega) rfl (by omega) rfl (by omega)
theorem refWriteFsC {w w0 : World} {a : Option Addr} {n c : Nat} {V : List HV} {L : List FG} {k : Nat} [hs : Sl w (.slice a n c) V.length (rowH V) w0] [hp : FsK w V L k] (b : k ≤ 100000) (hV : V.length ≤ 900000) :
    Calls Tryz.prog 37 #[.slice a n c] w (FsHRet w L (k + 1)) := by
  obtain rfl := hs.len
  have hlen := Lib.hid hp.len
  go_enter Tryz.func37, Tryz.ntmps37
  go_wp2_with fail
  go_loopw [8, 3] (fun i o wr => ∃ (q : Nat) (U : List HV), i = .int .i64 (q : Int) ∧ q ≤ V.length ∧ Rn wr o 160 14 U.length (rowH U) w.heap.size wr ∧ Hid (U.length = q) ∧ FsH wr U (L.take q) (k + 1) ∧ Kp w wr) (fun i _ _ => V.length - (intOf i).toNat)
  case atStart => exact ⟨0, [], rfl, by omega, Rn.nil (Nat.le_refl _), Lib.hid rfl, FsH.nil, inferInstance⟩
  case round =>
    obtain ⟨q, U, rfl, hq, i1, hU, i2, i3⟩ := hrel
    have kw := Kp1.mk i3.out
    by_cases hlt : q < V.length
    · obtain ⟨g, rfl, hA⟩ := hs.form (by omega)
      have hlt' : (q : Int) < V.length := by omega
      have lq : LtN q V.length := ⟨hlt⟩
      have ew : IntKind.i64.wrap ((q : Int) + 1) = (q : Int) + 1 := wr_in (by omega) (by omega)
      go_wp2_with (first
        | (with_reducible refine step_load (t := 167) (x := .tmp 10) rfl rfl rfl (load_K (k := q) hlt) ?_)
        | (go_at_call 97; (with_reducible refine Calls.cFhV (refWriteFC (k := k) (by omega)) ?_); intro w1 _ gx ax lx cx gy ay ly cy gz az lz cz gu au lu cu aau llu ccu gv av lv cv aav llv ccv _ _ _ _ _)
        | (at_builtin; go_loud (refine app_rn1 (v := u3) rfl (.tmp 12) (.tmp 15) 73 rfl Tryz.underlying73 info_hr rfl (by decide) (by decide) (by decide) inferInstance rfl (rowH_nd _) rfl (by rfl) ?h1 ?h2 (by first | omega | (have := hU.out; omega)) ?_); (case h1 => exact HV.one ⟨_, _, _, _, _, _, _, _, _, _, _, _, _, _, _, _, _, _, _, _, _, _, _, _, _, _⟩); (case h2 => exact HV.nd ⟨_, _, _, _, _, _, _, _, _, _, _, _, _, _, _, _, _, _, _, _, _, _, _, _, _, _⟩); intro g2 c2 w2 i9 i10 i11))
      go_roundw
      case rel => exact ⟨q + 1, U ++ [⟨gx, ax, lx, cx, gy, ay, ly, cy, gz, az, lz, cz, gu, au, lu, cu, aau, llu, ccu, gv, av, lv, cv, aav, llv, ccv⟩], by go_num, by omega, Rn.cast2 (inferInstance) (by simp) (by rw [rowH_snoc]; rfl), Lib.hid (by rw [List.length_append, hU.out]; rfl), by rw [take_fg (by have := hlen.out; omega)]; exact FsH.add (Nat.le_refl _) (Nat.le_refl _) (Nat.le_refl _) (Nat.le_refl _) (Nat.le_refl _), inferInstance⟩
      case measure => simp [intOf]; omega
    · obtain rfl : q = V.length := by omega
      rw [List.take_of_length_le (by have := hlen.out; omega)] at i2
      obtain ⟨a3, c3, rfl⟩ := i1.slice
      go_wp2_with fail
      go_ret
      exact FsHRet.fin (V := U) rfl (by omega)
theorem sameSpanC {w : World} {gu : Bool} {au : Option Addr} {lu : Nat} {cu : Nat} {aau : Option Addr} {llu : Nat} {ccu : Nat} {gv : Bool} {av : Option Addr} {lv : Nat} {cv : Nat} {aav : Option Addr} {llv : Nat} {ccv : Nat} {gp : Bool} {ap : Option Addr} {lp : Nat} {cp : Nat} {aap : Option Addr} {llp : Nat} {ccp : Nat} {gq : Bool} {aq : Option Addr} {lq : Nat} {cq : Nat} {aaq : Option Addr} {llq : Nat} {ccq : Nat} {x y : Rat} {k k2 : Nat} [h1 : CA w (.agg #[.bool gu, .slice au lu cu, .slice aau llu ccu]) x k] [h2 : CA w (.agg #[.bool gv, .slice av lv cv, .slice aav llv ccv]) y k] [h3 : CA w (.agg #[.bool gp, .slice ap lp cp, .slice aap llp ccp]) x k2] [h4 : CA w (.agg #[.bool gq, .slice aq lq cq, .slice aaq llq ccq]) y k2] :
    Calls Tryz.prog 96 #[.agg #[.bool gu, .slice au lu cu, .slice aau llu ccu, .bool gv, .slice av lv cv, .slice aav llv ccv, .bool false, .bool false], .agg #[.bool gp, .slice ap lp cp, .slice aap llp ccp, .bool gq, .slice aq lq cq, .slice aaq llq ccq, .bool false, .bool false]] w (fun e w' => e = .returned (.bool true) ∧ Below w.heap.size w w') := by
  go_enter Tryz.func96, Tryz.ntmps96
  go_wp2_with (first
    | (go_at_call 39; (with_reducible refine Calls.cE (sameQC rfl) ?_); intros))
  go_ret
  exact E.fin rfl
theorem sameL9 {w : World} {g1x g1y g1z g2x g2y g2z : Bool} {a1x a1y a1z a2x a2y a2z : Option Addr} {l1x c1x l1y c1y l1z c1z l2x c2x l2y c2y l2z c2z k1x k1y k1z k2x k2y k2z : Nat} {la lb lc ma mb mc : Int} [h1x : CZ w (.agg #[.bool g1x, .slice a1x l1x c1x]) la k1x] [h1y : CZ w (.agg #[.bool g1y, .slice a1y l1y c1y]) lb k1y] [h1z : CZ w (.agg #[.bool g1z, .slice a1z l1z c1z]) lc k1z] [h2x : CZ w (.agg #[.bool g2x, .slice a2x l2x c2x]) ma k2x] [h2y : CZ w (.agg #[.bool g2y, .slice a2y l2y c2y]) mb k2y] [h2z : CZ w (.agg #[.bool g2z, .slice a2z l2z c2z]) mc k2z] (ea : la = ma) (eb : lb = mb) (ec : lc = mc) :
    Calls Tryz.prog 95 #[.agg #[.bool g1x, .slice a1x l1x c1x, .bool g1y, .slice a1y l1y c1y, .bool g1z, .slice a1z l1z c1z], .agg #[.bool g2x, .slice a2x l2x c2x, .bool g2y, .slice a2y l2y c2y, .bool g2z, .slice a2z l2z c2z]] w (fun e w' => e = .returned (.bool true) ∧ Below w.heap.size w w') := by
  subst ea eb ec
  go_enter Tryz.func95, Tryz.ntmps95
  go_wp2_with (first
    | (go_at_call 99; (with_reducible refine Calls.cE (sameIC rfl) ?_); intros))
  go_ret
  exact E.fin rfl

end Go.Proofs.YtdlnoeegboapkaaGreatDoor

/- Lists of segments compared; the reference's area. printed by a small program (mkrg17.py). -/
namespace Go.Proofs.YtdlnoeegboapkaaGreatDoor
open Go.RowKit
set_option maxRecDepth 100000
set_option maxHeartbeats 40000000
set_option synthInstance.maxSize 100000
set_option synthInstance.maxHeartbeats 1000000
set_option linter.unusedVariables false

theorem sameFsC {w w0 w1 : World} {a a2 : Option Addr} {n c n2 c2 : Nat} {V V2 : List HV} {L : List FG} {k k2 : Nat} [hs : Sl w (.slice a n c) V.length (rowH V) w0] [hp : FsH w V L k] [hs2 : Sl w (.slice a2 n2 c2) V2.length (rowH V2) w1] [hp2 : FsH w V2 L k2] (hV : V.length ≤ 100000) :
    Calls Tryz.prog 36 #[.slice a n c, .slice a2 n2 c2] w (fun e w' => e = .returned (.bool true) ∧ Below w.heap.size w w') := by
  obtain rfl := hs.len
  obtain rfl := hs2.len
  have hlen : V2.length = V.length := by rw [hp2.len, hp.len]
  have hlen2 : ((V.length : Int) != (V2.length : Int)) = false := by rw [hlen]; simp
  have hlen3 : V.length = V2.length := hlen.symm
  have HLEN := Lib.hid hlen
  clear hlen
  go_enter Tryz.func36, Tryz.ntmps36
  go_wp2_with fail
  go_loopw [13] (fun i wr => ∃ q : Nat, i = .int .i64 (q : Int) ∧ q ≤ V.length ∧ Kp w wr) (fun i _ => V.length - (intOf i).toNat)
  case atStart => exact ⟨0, rfl, by omega, inferInstance⟩
  case round =>
    obtain ⟨q, rfl, hq, i1⟩ := hrel
    have kw := Kp1.mk i1.out
    by_cases hlt : q < V.length
    · have hlt' : (q : Int) < V.length := by omega
      have hlt2 : q < V2.length := by rw [HLEN.out]; exact hlt
      have hlt2' : (q : Int) < V2.length := by omega
      have lq : LtN q V.length := ⟨hlt⟩
      have lq2 : LtN q V2.length := ⟨hlt2⟩
      have ew : IntKind.i64.wrap ((q : Int) + 1) = (q : Int) + 1 := wr_in (by omega) (by omega)
      obtain ⟨g, rfl, hA⟩ := hs.form (by omega)
      obtain ⟨g2, rfl, hA2⟩ := hs2.form (by omega)
      clear hlen3 hlen2
      go_wp2_with fail
      refine rgn [] [] fun hHeld => ?_
      refine tk 0 hHeld ?_
      refine tk 1 hHeld ?_
      refine tk 2 hHeld ?_
      refine tk 3 hHeld ?_
      refine tk 4 hHeld ?_
      refine tk 5 hHeld ?_
      refine tk 6 hHeld ?_
      refine tk 7 hHeld ?_
      refine tk 8 hHeld ?_
      refine tk 9 hHeld ?_
      refine st 10 fun K hK => ?_
      go_simp
      (with_reducible refine Calls.cE (sameL9 rfl rfl rfl) ?_); intros
      refine hd hK ?_
      clear hHeld hK K
      intro hHeld
      refine tk 11 hHeld ?_
      refine tk 12 hHeld ?_
      refine tk 13 hHeld ?_
      refine tk 14 hHeld ?_
      refine tk 15 hHeld ?_
      refine tk 16 hHeld ?_
      refine tk 17 hHeld ?_
      refine tk 18 hHeld ?_
      refine tk 19 hHeld ?_
      refine tk 20 hHeld ?_
      refine tk 21 hHeld ?_
      refine tk 22 hHeld ?_
      refine st 23 fun K hK => ?_
      go_simp
      (with_reducible refine Calls.cE (sameSpanC) ?_); intros
      refine hd hK ?_
      clear hHeld hK K
      intro hHeld
      refine tk 24 hHeld ?_
      refine tk 25 hHeld ?_
      refine dn ?_
      clear hHeld
      go_wp2
      go_roundw
      case rel => exact ⟨q + 1, by go_num, by omega, inferInstance⟩
      case measure => simp [intOf]; omega
    · obtain rfl : q = V.length := by omega
      go_wp2_with fail
      go_ret
      exact E.fin rfl
theorem refHalfC {w : World} {g1 : Bool} {a1 aa1 : Option Addr} {l1 c1 ll1 cc1 k1 : Nat} {x : Rat} [h1 : CQ w (.agg #[.bool g1, .slice a1 l1 c1, .slice aa1 ll1 cc1]) x k1] (b : k1 ≤ 20000) :
    Calls Tryz.prog 104 #[.agg #[.bool g1, .slice a1 l1 c1, .slice aa1 ll1 cc1]] w (CQRet w (x / 2) (k1 + 10)) := by
  go_enter Tryz.func104, Tryz.ntmps104
  go_wp2_with fail
  refine rgn [w.heap.size + 1] [] fun hHeld => ?_
  refine tk 0 hHeld ?_
  refine st 1 fun K hK => ?_
  go_simp
  (with_reducible refine Calls.cQ (numOfC (by omega)) ?_); intros
  refine hd hK ?_
  clear hHeld hK K
  intro hHeld
  refine st 2 fun K hK => ?_
  go_simp
  (with_reducible refine Calls.cQ (numOverC (by omega) (by decide)) ?_); intros
  refine hd hK ?_
  clear hHeld hK K
  intro hHeld
  refine st 3 fun K hK => ?_
  go_simp
  refine hd hK ?_
  clear hHeld hK K
  intro hHeld
  refine dn ?_
  clear hHeld
  go_wp2
  refine ret_bx rfl Tryz.underlying45 rfl (by kernel_rfl) rfl rfl rfl ?_
  exact CQRet.fin rfl (by omega)
theorem refTwiceC {w w0 : World} {a : Option Addr} {n c : Nat} {V : List AV} {L : List (Rat × Rat)} {k : Nat} [hs : Sl w (.slice a n c) V.length (rowA V) w0] [hp : PsQ w V L k] (b : k ≤ 900) (hV : V.length ≤ 10) :
    Calls Tryz.prog 105 #[.slice a n c] w (CQRet w (sumC L L.length) (40 * k + 220)) := by
  obtain rfl := hs.len
  have hlen := Lib.hid hp.len
  go_enter Tryz.func105, Tryz.ntmps105
  go_wp2_with fail
  go_loopw [8] (fun i wr => ∃ (q kq : Nat) (gs : Bool) (as_ : Option Addr) (ls cs : Nat) (aas : Option Addr) (lls ccs : Nat), i = .int .i64 (q : Int) ∧ q ≤ V.length ∧ Bx wr w.heap.size 45 [.bool false, .slice none 0 0, .slice none 0 0] ∧ Bx wr (w.heap.size + 1) 45 [.bool gs, .slice as_ ls cs, .slice aas lls ccs] ∧ CQ wr (.agg #[.bool gs, .slice as_ ls cs, .slice aas lls ccs]) (sumC L q) kq ∧ Hid (kq ≤ 2 + q * (4 * k + 20)) ∧ Kp w wr) (fun i _ => V.length - (intOf i).toNat)
  case atStart => exact ⟨0, 0, false, none, 0, 0, none, 0, 0, rfl, by omega, inferInstance, inferInstance, CQ.zz, Lib.hid (by omega), inferInstance⟩
  case round =>
    obtain ⟨q, kq, gs, as_, ls, cs, aas, lls, ccs, rfl, hq, i1, i2, i3, hkq, i4⟩ := hrel
    have kw := Kp1.mk i4.out
    by_cases hlt : q < V.length
    · obtain ⟨g, rfl, hA⟩ := hs.form (by omega)
      have hlt' : (q : Int) < V.length := by omega
      have lq : LtN q V.length := ⟨hlt⟩
      have ew : IntKind.i64.wrap ((q : Int) + 1) = (q : Int) + 1 := wr_in (by omega) (by omega)
      obtain ⟨m, hm0⟩ : ∃ m, (q + 1) % V.length = m := ⟨_, rfl⟩
      have hm : m < V.length := by rw [← hm0]; exact Nat.mod_lt _ (by omega)
      have lm : LtN m V.length := ⟨hm⟩
      have hm' : (m : Int) < V.length := by omega
      have er : ((q : Int) + 1).tmod (V.length : Int) = (m : Int) := by
        rw [← hm0, show (q : Int) + 1 = ((q + 1 : Nat) : Int) by omega]; exact (Int.ofNat_tmod _ _).symm
      have HM := Lib.hid hm0
      clear hm0
      have hz : ¬ ((V.length : Int) = 0) := by omega
      have hz2 : ¬ (V.length = 0) := by omega
      have hkq2 : kq ≤ 2 + q * (4 * k + 20) := hkq.out
      have hkq3 : q * (4 * k + 20) ≤ 10 * (4 * k + 20) := Nat.mul_le_mul_right _ (by omega)
      have HK : kq ≤ 2 + 10 * (4 * k + 20) := by omega
      clear hkq2 hkq3
      go_wp2_with fail
      refine rgn [] [12] fun hHeld => ?_
      refine tk 0 hHeld ?_
      refine tk 1 hHeld ?_
      refine tk 2 hHeld ?_
      refine tk 3 hHeld ?_
      refine tk 4 hHeld ?_
      refine tk 5 hHeld ?_
      refine tk 6 hHeld ?_
      refine tk 7 hHeld ?_
      refine tk 8 hHeld ?_
      refine tk 9 hHeld ?_
      refine st 10 fun K hK => ?_
      go_simp
      (with_reducible refine Calls.cQ (refCrossC (by omega)) ?_); intros
      refine hd hK ?_
      clear hHeld hK K
      intro hHeld
      refine st 11 fun K hK => ?_
      go_simp
      (with_reducible refine Calls.cQ (numPlusC (by omega)) ?_); intros
      refine hd hK ?_
      clear hHeld hK K
      intro hHeld
      refine st 12 fun K hK => ?_
      go_simp
      refine hdT hK ?_
      clear hK K
      refine dn ?_
      clear hHeld
      go_wp2
      go_roundw
      case rel => exact ⟨q + 1, kq + (k + k + k + k + 12) + 4, _, _, _, _, _, _, _, by go_num, by omega, inferInstance, inferInstance, CQ.cast inferInstance (by rw [sumC_succ (by have := hlen.out; omega), ← hlen.out, HM.out]; rfl) (Nat.le_refl _), Lib.hid (by have h1 := hkq.out; have h2 := Nat.succ_mul q (4 * k + 20); rw [Nat.succ_eq_add_one] at h2; rw [h2]; generalize q * (4 * k + 20) = X at *; omega), inferInstance⟩
      case measure => simp [intOf]; omega
    · obtain rfl : q = V.length := by omega
      have hkq2 : kq ≤ 2 + V.length * (4 * k + 20) := hkq.out
      have hkq3 : V.length * (4 * k + 20) ≤ 10 * (4 * k + 20) := Nat.mul_le_mul_right _ hV
      go_wp2_with fail
      refine ret_bx rfl Tryz.underlying45 rfl (by kernel_rfl) rfl rfl rfl ?_
      exact CQRet.fin (by rw [← hlen.out]) (by omega)
theorem refAreaC {w w0 : World} {a : Option Addr} {n c : Nat} {V : List AV} {L : List (Rat × Rat)} {k : Nat} [hs : Sl w (.slice a n c) V.length (rowA V) w0] [hp : PsQ w V L k] (b : k ≤ 400) (hV : V.length ≤ 10) :
    Calls Tryz.prog 41 #[.slice a n c] w (CQRet w (areaL L) (40 * k + 230)) := by
  go_enter Tryz.func41, Tryz.ntmps41
  go_wp2_with (first
    | (go_at_call 105; (with_reducible refine Calls.cQ (refTwiceC (V := V) (by omega) (by omega)) ?_); intros)
    | (go_at_call 104; (with_reducible refine Calls.cQ (refHalfC (by omega)) ?_); intros))
  refine ret_bx rfl Tryz.underlying45 rfl (by kernel_rfl) rfl rfl rfl ?_
  exact CQRet.fin rfl (by omega)
end Go.Proofs.YtdlnoeegboapkaaGreatDoor
