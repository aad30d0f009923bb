/-
  Texts of this claim, joined: Rg18, Rh8, Rh13a.
-/
import Derived.Test.YtdlnoeegboapkaaGreatDoorHKI
import Derived.Test.YtdlnoeegboapkaaGreatDoorCJ
import Derived.Test.YtdlnoeegboapkaaGreatDoorHKC
import Derived.Test.YtdlnoeegboapkaaGreatDoorHKH
import Derived.Test.YtdlnoeegboapkaaGreatDoorHKB
namespace Go.Proofs.YtdlnoeegboapkaaGreatDoor
open Go.RowKit
set_option linter.unusedVariables false
set_option maxHeartbeats 40000000
set_option maxRecDepth 100000
set_option synthInstance.maxHeartbeats 1000000
set_option synthInstance.maxSize 100000
section
theorem Rn.lit {W : World} {b n sz base : Nat} {e : TypeId} {l : List Value} [h : Bx W b e l] (hl : l.length = n * sz) (hb : base ≤ b) (hn : n ≤ 1000000) (he : BoxT e) (hd : ∀ u ∈ l, isDigit32 u = false) : Rn W (.slice (some ⟨b, 0, none⟩) n n) e sz n l base W := by
  refine ⟨⟨⟨hl, .inr ⟨b, n, _, rfl, hb, h.out, Nat.le_refl _, ?_, ?_, ?_⟩⟩, fun g eg => ?_, fun g eg => ?_, Nat.le_trans hb (Nat.le_of_lt h.lt)⟩, fun g eg => ?_⟩
  · unfold maxLen; omega
  · simp [hl]
  · simp [← hl]
  · cases eg; exact h.lt
  · cases eg; exact h.lt
  · cases eg; exact ⟨e, l, h.out, he, hd⟩
attribute [local go_sem] cell_az0 cell_az1 cell_az2 cell_az3 cell_az4 cell_az5
end
section
theorem numMid2 {w : World} {gu gv : Bool} {au aau av aav : Option Addr} {lu cu llu ccu lv cv llv ccv : Nat} {x y : Rat} {k1 k2 : Nat} [h1 : CQ w (.agg #[.bool gu, .slice au lu cu, .slice aau llu ccu]) x k1] [h2 : CQ w (.agg #[.bool gv, .slice av lv cv, .slice aav llv ccv]) y k2] (b : k1 ≤ 9000 ∧ k2 ≤ 9000) :
    Calls Tryz.prog 278 #[.agg #[.bool gu, .slice au lu cu, .slice aau llu ccu], .agg #[.bool gv, .slice av lv cv, .slice aav llv ccv]] w (CQRet w ((x + y) / 2) (k1 + k2 + 14)) := by
  go_enter Tryz.func278, Tryz.ntmps278
  go_wp2_with (first
    | (go_at_call 55; (with_reducible refine Calls.cQ (numPlusC (by omega)) ?_); intros)
    | (go_at_call 104; (with_reducible refine Calls.cQ (refHalfC (by omega)) ?_); intros))
  refine ret_bx rfl Tryz.underlying45 rfl (by kernel_rfl) rfl rfl rfl ?_; exact CQRet.fin rfl (by omega)
attribute [local go_sem] cell_qz0 cell_qz1 cell_qz2
theorem refProbes {w w0 : World} {a : Option Addr} {n c : Nat} {V : List QV} {C : List Rat} {k : Nat} [hs : Sl w (.slice a n c) V.length (rowQ V) w0] [hp : PsN w V C k] (b : k ≤ 1000) (hV : V.length ≤ 1000) (h0 : 0 < V.length) :
    Calls Tryz.prog 239 #[.slice a n c] w (PsNRet w ((List.range (C.length + 1)).map (prb C)) (2 * k + 60)) := by
  obtain rfl := hs.len; have hlen := Lib.hid hp.len; obtain ⟨g, rfl, hA0⟩ := hs.form h0
  have hA : At w g (rowQ V) w := ⟨hA0.out, hA0.ltW, hA0.ltW⟩
  clear hA0 hs; have hz : ¬ ((V.length : Int) = 0) := (by omega); have hz2 : ¬ (V.length = 0) := (by omega)
  have hz3 : ((V.length : Int) == 0) = false := beq_false_of_ne hz
  have hpos : 0 < (V.length : Int) := (by omega); have l0 : LtN 0 V.length := ⟨h0⟩; go_enter Tryz.func239, Tryz.ntmps239
  go_upto_region 3 with fail
  go_cut [3] from 10 to 15 (fun t wx => ∃ (q : Nat) (gm : Bool) (am : Option Addr) (nm cm : Nat) (aam : Option Addr) (nnm ccm : Nat), t = .slice (some ⟨q, 0, none⟩) 1 1 ∧ Bx wx q 45 [.bool gm, .slice am nm cm, .slice aam nnm ccm] ∧ CQ wx (.agg #[.bool gm, .slice am nm cm, .slice aam nnm ccm]) (qg C 0 - 1) (2 * k + 60) ∧ w.heap.size ≤ q ∧ Kp w wx)
  case first =>
    refine rgn [] [] fun hH => ?_; refine tk 0 hH ?_; refine tk 1 hH ?_; refine tk 2 hH ?_; refine st 3 fun K hK => ?_; go_simp; (with_reducible refine Calls.cQ (numOfC (by omega)) ?_); intros; refine hd hK ?_; clear hH hK K; intro hH; refine st 4 fun K hK => ?_; go_simp; (with_reducible refine Calls.cQ (numSubC (by omega)) ?_); intro w5 _ gm am nm cm aam nnm ccm im; refine hd hK ?_; clear hH hK K; intro hH; refine st 5 fun K hK => ?_; go_simp; refine hd hK ?_; clear hH hK K; intro hH; refine tk 6 hH ?_; refine dn ?_; clear hH; go_wp2_with fail; go_meet; exact ⟨_, _, _, _, _, _, _, _, rfl, Bx.re rfl, CQ.cast inferInstance rfl (by omega), Kp.out.size, inferInstance⟩
  case rest =>
    obtain ⟨q0, gm, am, nm, cm, aam, nnm, ccm, rfl, i1, i2, i3, ⟨i4⟩⟩ := hcut; have kc := Kp1.mk i4; go_wp2_with fail
    go_loopw [4, 3] (fun i o wr => ∃ (q : Nat) (U : List QV), i = .int .i64 (q : Int) ∧ 1 ≤ q ∧ q ≤ V.length ∧ Rn wr o 45 3 U.length (rowQ U) w.heap.size wr ∧ Hid (U.length = q) ∧ PsN wr U ((List.range q).map (prb C)) (2 * k + 60) ∧ Kp w wr) (fun i _ _ => V.length - (intOf i).toNat)
    case atStart => exact ⟨1, [⟨gm, am, nm, cm, aam, nnm, ccm⟩], rfl, by omega, by omega, Rn.lit (n := 1) rfl i3 (by omega) inferInstance (rowQ_nd [⟨gm, am, nm, cm, aam, nnm, ccm⟩]), Lib.hid rfl, PsN.add (h := PsN.nil) (Nat.le_refl _), inferInstance⟩
    case round =>
      obtain ⟨q, U, rfl, hq1, hq, j1, hU, j2, j3⟩ := hrel; have kw := Kp1.mk j3.out
      by_cases hlt : q < V.length
      · have hlt' : (q : Int) < V.length := by omega
        have lq : LtN q V.length := ⟨hlt⟩
        obtain ⟨p, hpq⟩ : ∃ p, q = p + 1 := ⟨q - 1, by omega⟩
        have hp2 : p < V.length := (by omega); have lp : LtN p V.length := ⟨hp2⟩; have hp' : (p : Int) < V.length := (by omega)
        have ewm : IntKind.i64.wrap ((q : Int) - 1) = (p : Int) := by rw [wr_in (by omega) (by omega)]; omega
        have ew : IntKind.i64.wrap ((q : Int) + 1) = (q : Int) + 1 := wr_in (by omega) (by omega)
        have HPQ : Hid ((qg C p + qg C q) / 2 = prb C q) := Lib.hid (by
          unfold prb
          rw [if_neg (by omega), if_neg (by rw [← hlen.out]; omega), show q - 1 = p by omega])
        clear hpq; go_wp2_with fail; refine rgn [] [12, 13] fun hH => ?_; refine tk 0 hH ?_; refine tkW 1 [4, 5, 10, 11, 12, 13] hH ?_; refine tkW 2 [3, 4, 5, 10, 11, 12, 13] hH ?_; refine tkW 3 [4, 5, 10, 11, 12, 13] hH ?_; refine tkW 4 [5, 10, 11, 12, 13] hH ?_; refine tkW 5 [10, 11, 12, 13] hH ?_; refine tkW 6 [8, 9, 10, 11, 12, 13] hH ?_; refine tkW 7 [8, 9, 10, 11, 12, 13] hH ?_; refine tkW 8 [9, 10, 11, 12, 13] hH ?_; refine tkW 9 [10, 11, 12, 13] hH ?_; refine st 10 fun K hK => ?_; go_simp
        (with_reducible refine Calls.cQ (numMid2 (by omega)) ?_); intro w5 _ gy ay ny cy aay nny ccy iy; rw [HPQ.out] at iy
        refine hd hK ?_; clear hH hK K; intro hH; refine st 11 fun K hK => ?_; go_simp; refine hd hK ?_; clear hH hK K; intro hH; refine st 12 fun K hK => ?_; rw [if_pos (by rfl)]
        refine appO_own (v := u3) (.tmp 22) (.tmp 33) 312 rfl Tryz.underlying312 info_nq rfl (by decide) (by decide) (by decide) inferInstance rfl (rowQ_nd _) rfl (l := [.bool gy, .slice ay ny cy, .slice aay nny ccy]) (fun j u hu => by rw [add_off, Nat.zero_add, cell_bx]; exact hu) rfl (by simp [Value.oneCell']) (by simp [isDigit32]) (by have := hU.out; omega) (by have := hU.out; omega) ?_
        intro g5 c5 W6 k6 k6n i5; refine hdT hK ?_; clear hK K; refine tk0 13 ?_; refine dn ?_; clear hH; go_wp2
        go_roundw
        case rel => exact ⟨q + 1, U ++ [(⟨gy, ay, ny, cy, aay, nny, ccy⟩ : QV)], by go_num, by omega, by omega, Rn.cast2 i5 (by simp) (by rw [rowQ_snoc]; rfl), Lib.hid (by rw [List.length_append, hU.out]; rfl), by rw [List.range_succ, List.map_append, List.map_cons, List.map_nil]; exact PsN.add (by omega), inferInstance⟩
        case measure => simp [intOf]; omega
      · obtain rfl : q = V.length := by omega
        obtain ⟨p, hpq⟩ : ∃ p, V.length = p + 1 := ⟨V.length - 1, by omega⟩
        have hp2 : p < V.length := (by omega); have lp : LtN p V.length := ⟨hp2⟩; have hp' : (p : Int) < V.length := (by omega)
        have ewm : IntKind.i64.wrap ((V.length : Int) - 1) = (p : Int) := by rw [wr_in (by omega) (by omega)]; omega
        have HPQ : Hid (qg C p + ((1 : Int) : Rat) = prb C V.length) := Lib.hid (by
          unfold prb
          rw [if_neg (by omega), if_pos hlen.out, ← hlen.out, show V.length - 1 = p by omega]; rfl)
        clear hpq; go_wp2_with fail; refine rgn [] [10, 11] fun hH => ?_; refine tk 0 hH ?_; refine tkW 1 [5, 6, 8, 9, 10, 11] hH ?_; refine tkW 2 [3, 4, 5, 6, 8, 9, 10, 11] hH ?_; refine tkW 3 [4, 5, 6, 8, 9, 10, 11] hH ?_; refine tkW 4 [5, 6, 8, 9, 10, 11] hH ?_; refine tkW 5 [6, 8, 9, 10, 11] hH ?_; refine tkW 6 [8, 9, 10, 11] hH ?_; refine st 7 fun K hK => ?_; go_simp; (with_reducible refine Calls.cQ (numOfC (by omega)) ?_); intros; refine hd hK ?_; clear hH hK K; intro hH; refine st 8 fun K hK => ?_; go_simp
        (with_reducible refine Calls.cQ (numPlusC (by omega)) ?_); intro w5 _ gy ay ny cy aay nny ccy iy; rw [HPQ.out] at iy
        refine hd hK ?_; clear hH hK K; intro hH; refine st 9 fun K hK => ?_; go_simp; refine hd hK ?_; clear hH hK K; intro hH; refine st 10 fun K hK => ?_; rw [if_pos (by rfl)]
        refine appO_own (v := u3) (.tmp 35) (.tmp 44) 312 rfl Tryz.underlying312 info_nq rfl (by decide) (by decide) (by decide) inferInstance rfl (rowQ_nd _) rfl (l := [.bool gy, .slice ay ny cy, .slice aay nny ccy]) (fun j u hu => by rw [add_off, Nat.zero_add, cell_bx]; exact hu) rfl (by simp [Value.oneCell']) (by simp [isDigit32]) (by have := hU.out; omega) (by have := hU.out; omega) ?_
        intro g5 c5 W6 k6 k6n i5; refine hdT hK ?_; clear hK K; refine tk0 11 ?_; refine dn ?_; clear hH; go_wp2_with fail; go_ret
        have i6 := Rn.cast2 i5 (show U.length + 1 = (U ++ [(⟨gy, ay, ny, cy, aay, nny, ccy⟩ : QV)]).length by simp) (show _ = rowQ (U ++ [(⟨gy, ay, ny, cy, aay, nny, ccy⟩ : QV)]) by rw [rowQ_snoc]; rfl)
        clear i5
        have hfin : PsN W6 (U ++ [(⟨gy, ay, ny, cy, aay, nny, ccy⟩ : QV)]) ((List.range (C.length + 1)).map (prb C)) (2 * k + 60) := by rw [← hlen.out, List.range_succ, List.map_append, List.map_cons, List.map_nil]; exact PsN.add (by omega)
        exact PsNRet.fin (V := U ++ [(⟨gy, ay, ny, cy, aay, nny, ccy⟩ : QV)]) (hv := hfin) (hs := (Sl.ofRn (h := i6) : _)) rfl (Nat.le_refl _)
end
section
def rowBl (M : List Bool) : List Value := M.map (Value.bool ·)
theorem rowBl_nd (M : List Bool) : ∀ u ∈ rowBl M, isDigit32 u = false := by
  intro u hu; obtain ⟨b, _, rfl⟩ := List.mem_map.1 hu; rfl
theorem rowBl_snoc (M : List Bool) (b : Bool) : rowBl (M ++ [b]) = rowBl M ++ [.bool b] := by simp [rowBl]
def bm (M : List Bool) (i : Nat) : Bool := M.getD i false
theorem bm_get {M : List Bool} {i : Nat} (h : i < M.length) : bm M i = M[i] := getD_lt h
@[go_sem] theorem cell_bm {W w0 : World} {g k : Nat} {M : List Bool} [h : At W g (rowBl M) w0] (hk : k < M.length) : W.cell? ⟨g, k, none⟩ = some (.bool (bm M k)) :=
  h.out k _ (by rw [bm_get hk, rowBl, List.getElem?_map, List.getElem?_eq_getElem hk]; rfl)
theorem cell_bmz {W w0 : World} {g : Nat} {M : List Bool} [h : At W g (rowBl M) w0] (hk : 0 < M.length) : W.cell? ⟨g, 0, none⟩ = some (.bool (bm M 0)) := cell_bm hk
theorem info_bl : (Tryz.prog.info? 4).map (fun i => (i.zero, i.size, i.bytes)) = some (some (.bool false), 1, 1) := by kernel_rfl
theorem cnt_t {M : List Bool} {q : Nat} (h : q < M.length) (hb : bm M q = true) : (M.take (q + 1)).countP id = (M.take q).countP id + 1 := by
  rw [List.take_succ_eq_append_getElem h, List.countP_append, ← bm_get h, hb]; rfl
theorem cnt_f {M : List Bool} {q : Nat} (h : q < M.length) (hb : bm M q = false) : (M.take (q + 1)).countP id = (M.take q).countP id := by
  rw [List.take_succ_eq_append_getElem h, List.countP_append, ← bm_get h, hb]; rfl
theorem cnt_le (M : List Bool) (q : Nat) : (M.take q).countP id ≤ q := Nat.le_trans List.countP_le_length (by simp; omega)
section
attribute [local go_sem] cell_qz0 cell_qz1 cell_qz2 cell_bmz
theorem refFrom {w w0 w1 : World} {a a2 : Option Addr} {n c n2 c2 : Nat} {V : List QV} {M : List Bool} [hs : Sl w (.slice a n c) V.length (rowQ V) w0] [hm : Sl w (.slice a2 n2 c2) M.length (rowBl M) w1] (hl : M.length = V.length + 1) (h0V : 0 < V.length) (hV : V.length ≤ 100) (hM : ∀ i, i + 1 < M.length → bm M i = true → bm M (i + 1) = true → False) :
    Calls Tryz.prog 241 #[.slice a n c, .slice a2 n2 c2] w (SpLRet w (M.countP id)) := by
  obtain rfl := hs.len; obtain rfl := hm.len; have HM := Lib.hid hM; have HL := Lib.hid hl; have hM1 : M.length ≤ 101 := (by omega); have hM0 : 0 < M.length := (by omega); obtain ⟨g2, rfl, hA2⟩ := hm.form (by omega); obtain ⟨g, rfl, hA⟩ := hs.form h0V; clear hM hl; go_enter Tryz.func241, Tryz.ntmps241; go_wp2_with fail
  go_loopw [12, 5] (fun i o wr => ∃ (q : Nat) (U : List TPV), i = .int .i64 (q : Int) ∧ q ≤ M.length ∧ Rn wr o 165 8 U.length (rowTP U) w.heap.size wr ∧ Hid (U.length = (M.take q).countP id) ∧ Kp w wr) (fun i _ _ => M.length - (intOf i).toNat)
  case atStart => exact ⟨0, [], rfl, by omega, Rn.nil (Nat.le_refl _), Lib.hid rfl, inferInstance⟩
  case round =>
    obtain ⟨q, U, rfl, hq, i1, hU, i3⟩ := hrel; have kw := Kp1.mk i3.out
    have hUl : U.length ≤ 101 := by have h1 := hU.out; have h2 := cnt_le M q; omega
    obtain ⟨a3, c3, rfl⟩ := i1.slice
    by_cases hlt : q < M.length
    · have hlt' : (q : Int) < M.length := by omega
      have lq : LtN q M.length := ⟨hlt⟩
      have ew : IntKind.i64.wrap ((q : Int) + 1) = (q : Int) + 1 := wr_in (by omega) (by omega)
      cases hb : bm M q with
      | false =>
        go_wp2_with fail
        go_roundw
        case rel => exact ⟨q + 1, U, by go_num, by omega, Rn.cast2 inferInstance rfl rfl, Lib.hid (by rw [cnt_f hlt hb]; exact hU.out), inferInstance⟩
        case measure => simp [intOf]; omega
      | true =>
        by_cases h0 : q = 0
        · subst h0; have hz1 : ¬ ((0 : Int) = (V.length : Int)) := (by omega)
          have hz2 : ((0 : Int) == (V.length : Int)) = false := beq_false_of_ne hz1
          have hz3 : (0 : Int) < (V.length : Int) := (by omega); have hz4 : ¬ (V.length = 0) := (by omega); have hz5 : ¬ ((V.length : Int) = 0) := (by omega); have lz : LtN 0 V.length := ⟨h0V⟩
          go_wp2_with (at_builtin; go_loud (refine app_rn1 (v := .slice a3 U.length c3) rfl (.tmp 72) (.tmp 74) 263 rfl Tryz.underlying263 info_sp rfl (by decide) (by decide) (by decide) inferInstance rfl (rowTP_nd _) rfl (by rfl) ?h1 ?h2 (by omega) ?_); (case h1 => exact TPV.one ⟨_, _, _, _, _, _, _, _, _, _, _, _, _, _, _, _⟩); (case h2 => exact TPV.nd ⟨_, _, _, _, _, _, _, _, _, _, _, _, _, _, _, _⟩); intro g5 c5 w5 i9 i10 i11)
          go_roundw
          case rel => exact ⟨1, U ++ [⟨false, none, 0, 0, none, 0, 0, (qv V 0).g, (qv V 0).a, (qv V 0).n, (qv V 0).c, (qv V 0).aa, (qv V 0).nn, (qv V 0).cc, true, false⟩], by go_num, by omega, Rn.cast2 (inferInstance) (by simp) (by rw [rowTP_snoc]; rfl), Lib.hid (by rw [cnt_t hlt hb, List.length_append, hU.out]; rfl), inferInstance⟩
          case measure => simp [intOf]; omega
        · obtain ⟨p, hpq⟩ : ∃ p, q = p + 1 := ⟨q - 1, by omega⟩
          have hbp : bm M p = false := by
            cases h : bm M p with
            | false => rfl
            | true => exact absurd hb (fun h2 => HM.out p (by omega) h (by rw [← hpq]; exact h2))
          have hpM : p < M.length := (by omega); have hpM' : (p : Int) < M.length := (by omega)
          have hpV : p < V.length := by have := HL.out; omega
          have hpV' : (p : Int) < V.length := (by omega); have lp : LtN p V.length := ⟨hpV⟩; have lpM : LtN p M.length := ⟨hpM⟩; have hq1 : ¬ ((q : Int) = 0) := (by omega)
          have hq2 : ((q : Int) == 0) = false := beq_false_of_ne hq1
          have hq3 : 0 < (q : Int) := (by omega); have hq4 : 0 < q := (by omega)
          have ewm : IntKind.i64.wrap ((q : Int) - 1) = (p : Int) := by rw [wr_in (by omega) (by omega)]; omega
          clear hpq
          by_cases hqv : q < V.length
          · have hqv' : (q : Int) < V.length := by omega
            have lqv : LtN q V.length := ⟨hqv⟩; have hq5 : ¬ ((q : Int) = (V.length : Int)) := (by omega)
            have hq6 : ((q : Int) == (V.length : Int)) = false := beq_false_of_ne hq5
            have hq7 : ¬ (q = V.length) := (by omega)
            go_wp2_with (at_builtin; go_loud (refine app_rn1 (v := .slice a3 U.length c3) rfl (.tmp 72) (.tmp 74) 263 rfl Tryz.underlying263 info_sp rfl (by decide) (by decide) (by decide) inferInstance rfl (rowTP_nd _) rfl (by rfl) ?h1 ?h2 (by omega) ?_); (case h1 => exact TPV.one ⟨_, _, _, _, _, _, _, _, _, _, _, _, _, _, _, _⟩); (case h2 => exact TPV.nd ⟨_, _, _, _, _, _, _, _, _, _, _, _, _, _, _, _⟩); intro g5 c5 w5 i9 i10 i11)
            go_roundw
            case rel => exact ⟨q + 1, U ++ [⟨(qv V p).g, (qv V p).a, (qv V p).n, (qv V p).c, (qv V p).aa, (qv V p).nn, (qv V p).cc, (qv V q).g, (qv V q).a, (qv V q).n, (qv V q).c, (qv V q).aa, (qv V q).nn, (qv V q).cc, false, false⟩], by go_num, by omega, Rn.cast2 (inferInstance) (by simp) (by rw [rowTP_snoc]; rfl), Lib.hid (by rw [cnt_t hlt hb, List.length_append, hU.out]; rfl), inferInstance⟩
            case measure => simp [intOf]; omega
          · obtain rfl : q = V.length := by have := HL.out; omega
            go_wp2_with (at_builtin; go_loud (refine app_rn1 (v := .slice a3 U.length c3) rfl (.tmp 72) (.tmp 74) 263 rfl Tryz.underlying263 info_sp rfl (by decide) (by decide) (by decide) inferInstance rfl (rowTP_nd _) rfl (by rfl) ?h1 ?h2 (by omega) ?_); (case h1 => exact TPV.one ⟨_, _, _, _, _, _, _, _, _, _, _, _, _, _, _, _⟩); (case h2 => exact TPV.nd ⟨_, _, _, _, _, _, _, _, _, _, _, _, _, _, _, _⟩); intro g5 c5 w5 i9 i10 i11)
            go_roundw
            case rel => exact ⟨V.length + 1, U ++ [⟨(qv V p).g, (qv V p).a, (qv V p).n, (qv V p).c, (qv V p).aa, (qv V p).nn, (qv V p).cc, false, none, 0, 0, none, 0, 0, false, true⟩], by go_num, by omega, Rn.cast2 (inferInstance) (by simp) (by rw [rowTP_snoc]; rfl), Lib.hid (by rw [cnt_t hlt hb, List.length_append, hU.out]; rfl), inferInstance⟩
            case measure => simp [intOf]; omega
    · obtain rfl : q = M.length := by omega
      go_wp2_with fail; go_ret
      exact ⟨a3, c3, U, by rw [hU.out, List.take_length], rfl, (Sl.ofRn (h := i1.here) : _), (inferInstance : Kp w _).out⟩
end
end
end Go.Proofs.YtdlnoeegboapkaaGreatDoor
