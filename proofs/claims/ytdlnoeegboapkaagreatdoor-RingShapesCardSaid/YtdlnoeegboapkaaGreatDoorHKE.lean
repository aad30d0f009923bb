/-
  Texts of this claim, joined: Rh12.
-/
import Derived.Test.YtdlnoeegboapkaaGreatDoorHKC
import Derived.Test.YtdlnoeegboapkaaGreatDoorHKD
import Derived.Test.YtdlnoeegboapkaaGreatDoorCM
namespace Go.Proofs.YtdlnoeegboapkaaGreatDoor
open Go.RowKit
set_option linter.unusedVariables false
set_option maxHeartbeats 40000000
set_option maxRecDepth 100000
set_option synthInstance.maxHeartbeats 1000000
set_option synthInstance.maxSize 100000
section
theorem At.ofBx {W : World} {b : Nat} {t : TypeId} {xs : List Value} (h : Bx W b t xs) : At W b xs W := by
  obtain ⟨g, e, h2⟩ := (Sl.ofBx (n := 1) (c := 1) h (by decide)).form (by decide)
  cases e
  exact h2
def SPV.qs (v : SPV) : List QV := [⟨v.gu, v.au, v.lu, v.cu, v.aau, v.llu, v.ccu⟩, ⟨v.gv, v.av, v.lv, v.cv, v.aav, v.llv, v.ccv⟩]
def ends2 (p : Rat × Rat) : List Rat := [p.1, p.2]
theorem PsSP.qs {W : World} {V : List SPV} {L : List (Rat × Rat)} {k i : Nat} (h : PsSP W V L k) (hi : i < V.length) : PsN W (spv V i).qs (ends2 (pg L i)) k := by
  refine ⟨rfl, fun j hj => ?_⟩
  have hj2 : j < 2 := hj
  rcases (by omega : j = 0 ∨ j = 1) with rfl | rfl
  · exact h.u i hi
  · exact h.v i hi
def endJ (L : List (Rat × Rat)) (q m : Nat) : List Rat := ((ends2 (pg L q)).take m).foldl (fun C x => insQ x C) (endsL (L.take q))
theorem endJ_zero {L : List (Rat × Rat)} {q : Nat} : endJ L q 0 = endsL (L.take q) := rfl
theorem endJ_succ {L : List (Rat × Rat)} {q m : Nat} (h : m < 2) : endJ L q (m + 1) = insQ (qg (ends2 (pg L q)) m) (endJ L q m) := by
  rcases (by omega : m = 0 ∨ m = 1) with rfl | rfl <;> rfl
theorem endJ_two {L : List (Rat × Rat)} {q : Nat} (h : q < L.length) : endJ L q 2 = endsL (L.take (q + 1)) := by
  rw [List.take_succ_eq_append_getElem h]; unfold endJ endsL ends2; rw [List.foldl_append, pg_get h]; rfl
theorem endJ_len {L : List (Rat × Rat)} {q m : Nat} (h : m ≤ 2) : (endJ L q m).length ≤ 2 * q + m := by
  have hb : ∀ (M : List (Rat × Rat)), (endsL M).length ≤ 2 * M.length := fun M => by
    have : ∀ (N : List (Rat × Rat)) (C : List Rat), (N.foldl (fun C p => insQ p.2 (insQ p.1 C)) C).length ≤ C.length + 2 * N.length := fun N => by
      induction N with
      | nil => intro C; simp
      | cons x N ih =>
        intro C
        have h1 := ih (insQ x.2 (insQ x.1 C))
        have h2 := insQ_len (x := x.2) (C := insQ x.1 C)
        have h3 := insQ_len (x := x.1) (C := C)
        simp only [List.foldl_cons, List.length_cons]; omega
    have h := this M []
    simp only [List.length_nil, Nat.zero_add] at h; exact h
  have h0 : (endJ L q 0).length ≤ 2 * q := by
    have := hb (L.take q)
    rw [endJ_zero]
    have h2 : (L.take q).length ≤ q := by simp; omega
    omega
  have h1 : (endJ L q 1).length ≤ (endJ L q 0).length + 1 := by rw [endJ_succ (m := 0) (by decide)]; exact insQ_len
  have h2 : (endJ L q 2).length ≤ (endJ L q 1).length + 1 := by rw [endJ_succ (m := 1) (by decide)]; exact insQ_len
  rcases (by omega : m = 0 ∨ m = 1 ∨ m = 2) with rfl | rfl | rfl <;> omega
theorem refEnds {w w0 : World} {a : Option Addr} {n c : Nat} {V : List SPV} {L : List (Rat × Rat)} {k : Nat} [hs : Sl w (.slice a n c) V.length (rowSP V) w0] [hp : PsSP w V L k] (b : k ≤ 9000) (hV : V.length ≤ 100) :
    Calls Tryz.prog 238 #[.slice a n c] w (PsNRet w (endsL L) k) := by
  obtain rfl := hs.len; have hlen := Lib.hid hp.len; go_enter Tryz.func238, Tryz.ntmps238; go_wp2_with fail
  go_loopw [11, 3] (fun i o wr => ∃ (q : Nat) (U : List QV), i = .int .i64 (q : Int) ∧ q ≤ V.length ∧ Rn wr o 45 3 U.length (rowQ U) w.heap.size wr ∧ PsN wr U (endsL (L.take q)) k ∧ Kp w wr) (fun i _ _ => V.length - (intOf i).toNat)
  case atStart => exact ⟨0, [], rfl, by omega, Rn.nil (Nat.le_refl _), PsN.nil, inferInstance⟩
  case round =>
    obtain ⟨q, U, rfl, hq, i1, i2, i3⟩ := hrel; have kw := Kp1.mk i3.out
    by_cases hlt : q < V.length
    · obtain ⟨g, rfl, hA⟩ := hs.form (by omega); have hlt' : (q : Int) < V.length := (by omega); have lq : LtN q V.length := ⟨hlt⟩
      have hqL : q < L.length := by rw [← hlen.out]; exact hlt
      have HQL := Lib.hid hqL; clear hqL
      have ew : IntKind.i64.wrap ((q : Int) + 1) = (q : Int) + 1 := wr_in (by omega) (by omega)
      go_wp2_with (with_reducible refine step_ld (t := 165) (x := .tmp 13) rfl rfl rfl (load_spv (k := q) hlt) ?_)
      go_loopw [21, 3] (fun j o wx => ∃ (m : Nat) (U : List QV), j = .int .i64 (m : Int) ∧ m ≤ 2 ∧ Rn wx o 45 3 U.length (rowQ U) w.heap.size wx ∧ PsN wx U (endJ L q m) k ∧ Bx wx wr.heap.size 165 [.bool (spv V q).gu, .slice (spv V q).au (spv V q).lu (spv V q).cu, .slice (spv V q).aau (spv V q).llu (spv V q).ccu, .bool (spv V q).gv, .slice (spv V q).av (spv V q).lv (spv V q).cv, .slice (spv V q).aav (spv V q).llv (spv V q).ccv, .bool false, .bool false] ∧ Bx wx (wr.heap.size + 1) 45 [.bool (spv V q).gu, .slice (spv V q).au (spv V q).lu (spv V q).cu, .slice (spv V q).aau (spv V q).llu (spv V q).ccu, .bool (spv V q).gv, .slice (spv V q).av (spv V q).lv (spv V q).cv, .slice (spv V q).aav (spv V q).llv (spv V q).ccv] ∧ Kp wr wx) (fun j _ _ => 2 - (intOf j).toNat)
      case atStart => exact ⟨0, U, rfl, by omega, Rn.cast2 inferInstance rfl rfl, by rw [endJ_zero]; exact inferInstance, Bx.re rfl, Bx.re rfl, inferInstance⟩
      case round =>
        clear i1 i2 U; obtain ⟨m, U, rfl, hm, i1, i2, j1, j2, j3⟩ := hrel; have kx := Kp1.mk j3.out
        have hNl : U.length ≤ 300 := by
          have h1 := endJ_len (L := L) (q := q) hm; have h3 := i2.len; omega
        obtain ⟨a3, c3, rfl⟩ := i1.slice; obtain ⟨hc1, hc2⟩ := i1.cap; unfold maxLen at hc2
        by_cases hm2 : m < 2
        · have hm2' : (m : Int) < 2 := by omega
          have eml : IntKind.i64.wrap ((m : Int) + 1) = (m : Int) + 1 := wr_in (by omega) (by omega)
          have hlit : At wr _ (rowQ (spv V q).qs) wr := At.ofBx (show Bx wr _ 45 (rowQ (spv V q).qs) from j2)
          have hml : m < (spv V q).qs.length := hm2
          have lm : LtN m (spv V q).qs.length := ⟨hml⟩
          have hln : PsN wr (spv V q).qs (ends2 (pg L q)) k := PsSP.qs (inferInstance : PsSP wr V L k) hlt
          have HUl := Lib.hid i2.len; have HS := Lib.hid (endJ_succ (L := L) (q := q) hm2)
          go_upto_region 8 with (with_reducible refine step_ld (t := 45) (x := .tmp 24) rfl rfl rfl (load_Qv (k := m) hml) ?_)
          go_cut [39] from 26 to 38 (fun t wz => t = .bool false ∧ Bx wz wr.heap.size 45 (qv (spv V q).qs m).l ∧ Kp wr wz)
          case first =>
            rcases (by omega : m = 0 ∨ m = 1) with rfl | rfl
            all_goals
              go_wp2_with fail; go_meet; exact ⟨rfl, Bx.re rfl, inferInstance⟩
          case rest =>
            obtain ⟨rfl, n1, n2⟩ := hcut; have kc := Kp1.mk n2.out; go_wp2_with fail
            go_loopw [8] (fun i wy => ∃ p : Nat, i = .int .i64 (p : Int) ∧ p ≤ U.length ∧ Hid (∀ j, j < p → qg (endJ L q m) j < qg (ends2 (pg L q)) m) ∧ Bx wy wr.heap.size 45 (qv (spv V q).qs m).l ∧ Kp wr wy) (fun i _ => U.length - (intOf i).toNat)
            case atStart => exact ⟨0, rfl, by omega, Lib.hid (fun j hj => by omega), n1, inferInstance⟩
            case round =>
              clear n1; obtain ⟨p, rfl, hp, hpl, n1, n3⟩ := hrel; have ky := Kp1.mk n3.out; simp only [QV.l] at n1
              by_cases hpt : p < U.length
              · have hpt' : (p : Int) < U.length := by omega
                have lp : LtN p U.length := ⟨hpt⟩
                have ep : IntKind.i64.wrap ((p : Int) + 1) = (p : Int) + 1 := wr_in (by omega) (by omega)
                obtain ⟨g2, rfl, hA2⟩ := (Sl.ofRn (h := i1)).form (by omega)
                rcases isgn_s (qg (endJ L q m) p) (qg (ends2 (pg L q)) m) with ⟨hc, hv⟩ | ⟨hc, hv⟩ | ⟨hc, hv⟩
                · have HC := Lib.hid hv; clear hv; go_wp2_with fail; refine rgn [] [] fun hH => ?_; refine tk 0 hH ?_; refine tk 1 hH ?_; refine tk 2 hH ?_; refine tk 3 hH ?_; refine tk 4 hH ?_; refine tk 5 hH ?_; refine tk 6 hH ?_; refine tk 7 hH ?_; refine tk 8 hH ?_; refine tk 9 hH ?_; refine st 10 fun K hK => ?_; go_simp; (with_reducible refine Calls.cE (numCV (by omega) HC) ?_); intros; refine hd hK ?_; clear hH hK K; intro hH; refine tk 11 hH ?_; refine tk 12 hH ?_; refine dn ?_; clear hH; go_wp2
                  go_roundw
                  case rel => exact ⟨p + 1, by go_num, by omega, Lib.hid (fun j hj => by
                      rcases Nat.lt_or_ge j p with h | h
                      · exact hpl.out j h
                      · have : j = p := by omega
                        subst this; exact hc), inferInstance, inferInstance⟩
                  case measure => simp [intOf]; omega
                · have HC := Lib.hid hv; clear hv; have hge : ¬ (p : Int) = (U.length : Int) := (by omega)
                  have hne2 : ((p : Int) == (U.length : Int)) = false := beq_false_of_ne hge
                  have hne3 : ¬ (p = U.length) := (by omega); have hpc : (p : Int) ≤ c3 := (by omega); have hUc : (U.length : Int) ≤ c3 := (by omega); have hcp : ¬ (c3 = p) := (by omega); go_wp2_with fail; refine rgn [] [] fun hH => ?_; refine tk 0 hH ?_; refine tk 1 hH ?_; refine tk 2 hH ?_; refine tk 3 hH ?_; refine tk 4 hH ?_; refine tk 5 hH ?_; refine tk 6 hH ?_; refine tk 7 hH ?_; refine tk 8 hH ?_; refine tk 9 hH ?_; refine st 10 fun K hK => ?_; go_simp; (with_reducible refine Calls.cE (numCV (by omega) HC) ?_); intros; refine hd hK ?_; clear hH hK K; intro hH; refine tk 11 hH ?_; refine tk 12 hH ?_; refine dn ?_; clear hH; go_wp2_with fail; refine rgn [] [] fun hH => ?_; refine tk 0 hH ?_; refine tk 1 hH ?_; refine tk 2 hH ?_; refine tk 3 hH ?_; refine tk 4 hH ?_; refine tk 5 hH ?_; refine tk 6 hH ?_; refine tk 7 hH ?_; refine tk 8 hH ?_; refine tk 9 hH ?_; refine st 10 fun K hK => ?_; go_simp; (with_reducible refine Calls.cE (numCV (by omega) HC) ?_); intros; refine hd hK ?_; clear hH hK K; intro hH; refine tk 11 hH ?_; refine tk 12 hH ?_; refine dn ?_; clear hH; go_wp2
                  go_roundw
                  case rel => exact ⟨m + 1, U, by go_num, by omega, Rn.cast2 inferInstance rfl rfl, by rw [HS.out, insQ_old (p := p) (by rw [← HUl.out]; exact hpt) hpl.out hc]; exact inferInstance, inferInstance, inferInstance, inferInstance⟩
                  case measure => simp [intOf]; omega
                · have HC := Lib.hid hv; clear hv; have hge : ¬ (p : Int) = (U.length : Int) := (by omega)
                  have hne2 : ((p : Int) == (U.length : Int)) = false := beq_false_of_ne hge
                  have hne3 : ¬ (p = U.length) := (by omega); have hpc : (p : Int) ≤ c3 := (by omega); have hUc : (U.length : Int) ≤ c3 := (by omega); have hcp : ¬ (c3 = p) := (by omega); go_wp2_with fail; refine rgn [] [] fun hH => ?_; refine tk 0 hH ?_; refine tk 1 hH ?_; refine tk 2 hH ?_; refine tk 3 hH ?_; refine tk 4 hH ?_; refine tk 5 hH ?_; refine tk 6 hH ?_; refine tk 7 hH ?_; refine tk 8 hH ?_; refine tk 9 hH ?_; refine st 10 fun K hK => ?_; go_simp; (with_reducible refine Calls.cE (numCV (by omega) HC) ?_); intros; refine hd hK ?_; clear hH hK K; intro hH; refine tk 11 hH ?_; refine tk 12 hH ?_; refine dn ?_; clear hH; go_wp2_with fail; refine rgn [] [] fun hH => ?_; refine tk 0 hH ?_; refine tk 1 hH ?_; refine tk 2 hH ?_; refine tk 3 hH ?_; refine tk 4 hH ?_; refine tk 5 hH ?_; refine tk 6 hH ?_; refine tk 7 hH ?_; refine tk 8 hH ?_; refine tk 9 hH ?_; refine st 10 fun K hK => ?_; go_simp; (with_reducible refine Calls.cE (numCV (by omega) HC) ?_); intros; refine hd hK ?_; clear hH hK K; intro hH; refine tk 11 hH ?_; refine tk 12 hH ?_; refine dn ?_; clear hH; go_wp2_with fail; refine rgn [] [] fun hH => ?_; refine tk 0 hH ?_; refine tk 1 hH ?_; refine tk 2 hH ?_; refine tk 3 hH ?_; refine tk 4 hH ?_; refine tk 6 hH ?_; refine tk 7 hH ?_; refine tk 8 hH ?_; refine st 5 fun K hK => ?_; go_simp; refine hd hK ?_; clear hH hK K; intro hH; refine st 9 fun K hK => ?_; rw [if_pos (by rfl)]
                  refine appO_full (.tmp 73) (.tmp 76) 312 rfl Tryz.underlying312 info_nq rfl (by decide) (by decide) inferInstance (n := 1) (xs := (qv (spv V q).qs m).l) rfl (.inr ⟨_, rfl, fun j u hu => by rw [add_off, Nat.zero_add, cell_bx]; exact hu⟩) rfl (QV.nd _) rfl (l := rowQ (U.drop p)) (fun j u hu => by rw [add_off]; exact (inferInstance : At _ g2 (rowQ U) _).out _ _ (rowQ_drop U p j u hu)) (by rw [rowQ_len, List.length_drop]) (rowQ_nd _) (by omega) (by omega) ?_
                  intro g4 c4 W4 k4 i4
                  have at4 := i4.at
                  refine hd hK ?_; clear hH hK K; intro hH; refine st 10 fun K hK => ?_; rw [if_pos (by rfl)]
                  refine appO_full (.tmp 71) (.tmp 77) 312 rfl Tryz.underlying312 info_nq rfl (by decide) (by decide) inferInstance (n := p) (xs := rowQ (U.take p)) rfl (.inr ⟨_, rfl, fun j u hu => by rw [add_off, Nat.zero_add]; exact (inferInstance : At _ g2 (rowQ U) _).out _ _ (rowQ_take U p j u hu)⟩) (by rw [rowQ_len, List.length_take, Nat.min_eq_left (by omega)]) (rowQ_nd _) rfl (l := (qv (spv V q).qs m).l ++ rowQ (U.drop p)) (fun j u hu => by rw [add_off, Nat.zero_add]; exact at4.out _ _ hu) (by rw [List.length_append, QV.len, rowQ_len, List.length_drop]; omega) (by rw [← rowQ_cons]; exact rowQ_nd _) (by omega) (by omega) ?_
                  intro g5 c5 W5 k5 i5; refine hd hK ?_; clear hH hK K; intro hH; refine tk 11 hH ?_; refine dn ?_; clear hH; go_wp2
                  go_roundw
                  case rel => exact ⟨m + 1, U.take p ++ (qv (spv V q).qs m) :: U.drop p, by go_num, by omega, Rn.cast2 (Rn.low i5 Ge.out) (by first | (simp; done) | (simp; omega)) (by rw [rowQ_app, rowQ_cons]), by rw [HS.out, insQ_new (p := p) (by rw [← HUl.out]; omega) hpl.out (.inr hc)]; exact PsN.ins inferInstance (by omega) inferInstance, inferInstance, inferInstance, inferInstance⟩
                  case measure => simp [intOf]; omega
              · obtain rfl : p = U.length := by omega
                rcases i1.cases with ⟨rfl, h0, rfl⟩ | ⟨g2, rfl, hA2⟩
                · obtain rfl : U = [] := List.eq_nil_of_length_eq_zero h0; clear h0; go_wp2_with fail; refine rgn [] [] fun hH => ?_; refine tk 0 hH ?_; refine tk 1 hH ?_; refine tk 2 hH ?_; refine tk 3 hH ?_; refine tk 4 hH ?_; refine tkU 5 hH ?_; refine tkU 6 hH ?_; refine tkU 7 hH ?_; refine tkU 8 hH ?_; refine tkU 9 hH ?_; refine tkU 10 hH ?_; refine tkU 11 hH ?_; refine tk 12 hH ?_; refine dn ?_; clear hH; go_wp2_with fail; refine rgn [] [] fun hH => ?_; refine tk 0 hH ?_; refine tk 1 hH ?_; refine tk 2 hH ?_; refine tk 3 hH ?_; refine tk 4 hH ?_; refine tkU 5 hH ?_; refine tkU 6 hH ?_; refine tkU 7 hH ?_; refine tkU 8 hH ?_; refine tkU 9 hH ?_; refine tkU 10 hH ?_; refine tkU 11 hH ?_; refine tk 12 hH ?_; refine dn ?_; clear hH; go_wp2_with fail; refine rgn [] [] fun hH => ?_; refine tk 0 hH ?_; refine tk 1 hH ?_; refine tk 2 hH ?_; refine tk 3 hH ?_; refine tk 4 hH ?_; refine tk 6 hH ?_; refine tk 7 hH ?_; refine tk 8 hH ?_; refine st 5 fun K hK => ?_; go_simp; refine hd hK ?_; clear hH hK K; intro hH; refine st 9 fun K hK => ?_; rw [if_pos (by rfl)]
                  refine appO_none (.tmp 73) (.tmp 76) 312 rfl Tryz.underlying312 info_nq rfl (Nat.le_refl _) rfl (.inl ⟨_, rfl⟩) ?_
                  refine hd hK ?_; clear hH hK K; intro hH; refine st 10 fun K hK => ?_; rw [if_pos (by rfl)]
                  refine appO_full (.tmp 71) (.tmp 77) 312 rfl Tryz.underlying312 info_nq rfl (by decide) (by decide) inferInstance (xs := rowQ ([] : List QV)) rfl (.inl ⟨rfl, rfl⟩) (rowQ_len _) (rowQ_nd _) rfl (l := (qv (spv V q).qs m).l) (fun j u hu => by rw [add_off, Nat.zero_add, cell_bx]; exact hu) rfl (QV.nd _) (by decide) (by omega) ?_
                  intro g5 c5 W5 k5 i5; refine hd hK ?_; clear hH hK K; intro hH; refine tk 11 hH ?_; refine dn ?_; clear hH; go_wp2
                  go_roundw
                  case rel => exact ⟨m + 1, (qv (spv V q).qs m) :: [], by go_num, by omega, Rn.cast2 (Rn.low i5 Ge.out) (by first | (simp; done) | (simp; omega)) (by simp [rowQ]), by rw [HS.out, insQ_new (p := 0) (by rw [← HUl.out]; omega) hpl.out (.inl HUl.out)]; exact PsN.ins (V := []) inferInstance (Nat.le_refl _) inferInstance, inferInstance, inferInstance, inferInstance⟩
                  case measure => simp [intOf]; omega
                · by_cases hcU : c3 = U.length
                  · subst hcU; go_wp2_with fail; refine rgn [] [] fun hH => ?_; refine tk 0 hH ?_; refine tk 1 hH ?_; refine tk 2 hH ?_; refine tk 3 hH ?_; refine tk 4 hH ?_; refine tkU 5 hH ?_; refine tkU 6 hH ?_; refine tkU 7 hH ?_; refine tkU 8 hH ?_; refine tkU 9 hH ?_; refine tkU 10 hH ?_; refine tkU 11 hH ?_; refine tk 12 hH ?_; refine dn ?_; clear hH; go_wp2_with fail; refine rgn [] [] fun hH => ?_; refine tk 0 hH ?_; refine tk 1 hH ?_; refine tk 2 hH ?_; refine tk 3 hH ?_; refine tk 4 hH ?_; refine tkU 5 hH ?_; refine tkU 6 hH ?_; refine tkU 7 hH ?_; refine tkU 8 hH ?_; refine tkU 9 hH ?_; refine tkU 10 hH ?_; refine tkU 11 hH ?_; refine tk 12 hH ?_; refine dn ?_; clear hH; go_wp2_with fail; refine rgn [] [] fun hH => ?_; refine tk 0 hH ?_; refine tk 1 hH ?_; refine tk 2 hH ?_; refine tk 3 hH ?_; refine tk 4 hH ?_; refine tk 6 hH ?_; refine tk 7 hH ?_; refine tk 8 hH ?_; refine st 5 fun K hK => ?_; go_simp; refine hd hK ?_; clear hH hK K; intro hH; refine st 9 fun K hK => ?_; rw [if_pos (by rfl)]
                    refine appO_none (.tmp 73) (.tmp 76) 312 rfl Tryz.underlying312 info_nq rfl (Nat.le_refl _) rfl (.inr ⟨_, _, rfl⟩) ?_
                    refine hd hK ?_; clear hH hK K; intro hH; refine st 10 fun K hK => ?_; rw [if_pos (by rfl)]
                    refine appO_full (.tmp 71) (.tmp 77) 312 rfl Tryz.underlying312 info_nq rfl (by decide) (by decide) inferInstance (xs := rowQ U) rfl (.inr ⟨_, rfl, fun j u hu => by rw [add_off, Nat.zero_add]; exact (inferInstance : At _ g2 (rowQ U) _).out _ _ hu⟩) (rowQ_len _) (rowQ_nd _) rfl (l := (qv (spv V q).qs m).l) (fun j u hu => by rw [add_off, Nat.zero_add, cell_bx]; exact hu) rfl (QV.nd _) (by decide) (by omega) ?_
                    intro g5 c5 W5 k5 i5; refine hd hK ?_; clear hH hK K; intro hH; refine tk 11 hH ?_; refine dn ?_; clear hH; go_wp2
                    go_roundw
                    case rel => exact ⟨m + 1, U.take U.length ++ (qv (spv V q).qs m) :: U.drop U.length, by go_num, by omega, Rn.cast2 (Rn.low i5 Ge.out) (by first | (simp; done) | (simp; omega)) (by rw [List.take_length, List.drop_length, rowQ_app, rowQ_cons]; simp [rowQ]), by rw [HS.out, insQ_new (p := U.length) (by rw [← HUl.out]; omega) hpl.out (.inl HUl.out)]; exact PsN.ins inferInstance (by omega) inferInstance, inferInstance, inferInstance, inferInstance⟩
                    case measure => simp [intOf]; omega
                  · go_wp2_with fail; refine rgn [] [] fun hH => ?_; refine tk 0 hH ?_; refine tk 1 hH ?_; refine tk 2 hH ?_; refine tk 3 hH ?_; refine tk 4 hH ?_; refine tkU 5 hH ?_; refine tkU 6 hH ?_; refine tkU 7 hH ?_; refine tkU 8 hH ?_; refine tkU 9 hH ?_; refine tkU 10 hH ?_; refine tkU 11 hH ?_; refine tk 12 hH ?_; refine dn ?_; clear hH; go_wp2_with fail; refine rgn [] [] fun hH => ?_; refine tk 0 hH ?_; refine tk 1 hH ?_; refine tk 2 hH ?_; refine tk 3 hH ?_; refine tk 4 hH ?_; refine tkU 5 hH ?_; refine tkU 6 hH ?_; refine tkU 7 hH ?_; refine tkU 8 hH ?_; refine tkU 9 hH ?_; refine tkU 10 hH ?_; refine tkU 11 hH ?_; refine tk 12 hH ?_; refine dn ?_; clear hH; go_wp2_with fail; refine rgn [] [] fun hH => ?_; refine tk 0 hH ?_; refine tk 1 hH ?_; refine tk 2 hH ?_; refine tk 3 hH ?_; refine tk 4 hH ?_; refine tk 6 hH ?_; refine tk 7 hH ?_; refine tk 8 hH ?_; refine st 5 fun K hK => ?_; go_simp; refine hd hK ?_; clear hH hK K; intro hH; refine st 9 fun K hK => ?_; rw [if_pos (by rfl)]
                    refine appO_none (.tmp 73) (.tmp 76) 312 rfl Tryz.underlying312 info_nq rfl (Nat.le_refl _) rfl (.inr ⟨_, _, rfl⟩) ?_
                    refine hd hK ?_; clear hH hK K; intro hH; refine st 10 fun K hK => ?_; rw [if_pos (by rfl)]
                    refine appO_full (.tmp 71) (.tmp 77) 312 rfl Tryz.underlying312 info_nq rfl (by decide) (by decide) inferInstance (xs := rowQ U) rfl (.inr ⟨_, rfl, fun j u hu => by rw [add_off, Nat.zero_add]; exact (inferInstance : At _ g2 (rowQ U) _).out _ _ hu⟩) (rowQ_len _) (rowQ_nd _) rfl (l := (qv (spv V q).qs m).l) (fun j u hu => by rw [add_off, Nat.zero_add, cell_bx]; exact hu) rfl (QV.nd _) (by decide) (by omega) ?_
                    intro g5 c5 W5 k5 i5; refine hd hK ?_; clear hH hK K; intro hH; refine tk 11 hH ?_; refine dn ?_; clear hH; go_wp2
                    go_roundw
                    case rel => exact ⟨m + 1, U.take U.length ++ (qv (spv V q).qs m) :: U.drop U.length, by go_num, by omega, Rn.cast2 (Rn.low i5 Ge.out) (by first | (simp; done) | (simp; omega)) (by rw [List.take_length, List.drop_length, rowQ_app, rowQ_cons]; simp [rowQ]), by rw [HS.out, insQ_new (p := U.length) (by rw [← HUl.out]; omega) hpl.out (.inl HUl.out)]; exact PsN.ins inferInstance (by omega) inferInstance, inferInstance, inferInstance, inferInstance⟩
                    case measure => simp [intOf]; omega
        · obtain rfl : m = 2 := by omega
          rw [endJ_two HQL.out] at i2; go_wp2_with fail
          go_roundw
          case rel => exact ⟨q + 1, U, by go_num, by omega, Rn.cast2 inferInstance rfl rfl, inferInstance, inferInstance⟩
          case measure => simp [intOf]; omega
    · obtain rfl : q = V.length := by omega
      obtain ⟨a3, c3, rfl⟩ := i1.slice
      have i2' : PsN wr U (endsL L) k := by rw [hlen.out, List.take_length] at i2; exact i2
      clear i2; go_wp2_with fail; go_ret; exact PsNRet.fin (V := U) rfl (Nat.le_refl _)
end
end Go.Proofs.YtdlnoeegboapkaaGreatDoor
