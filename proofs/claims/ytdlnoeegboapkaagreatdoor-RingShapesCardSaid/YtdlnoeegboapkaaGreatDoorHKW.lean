/-
  Texts of this claim, joined: Rh13.
-/
import Derived.Test.YtdlnoeegboapkaaGreatDoorHKE
import Derived.Test.YtdlnoeegboapkaaGreatDoorHKJ
namespace Go.Proofs.YtdlnoeegboapkaaGreatDoor
open Go.RowKit
set_option linter.unusedVariables false
set_option maxHeartbeats 40000000
set_option maxRecDepth 100000
set_option synthInstance.maxHeartbeats 1000000
set_option synthInstance.maxSize 100000
section
def mkB (a b c d : Rat) (i : Nat) : Bool := decide ((a < prb (endsL [(a, b), (c, d)]) i ∧ prb (endsL [(a, b), (c, d)]) i < b) ∧ c < prb (endsL [(a, b), (c, d)]) i ∧ prb (endsL [(a, b), (c, d)]) i < d)
def mksL (a b c d : Rat) : List Bool := (List.range ((endsL [(a, b), (c, d)]).length + 1)).map (mkB a b c d)
theorem mkB_iff {a b c d : Rat} {i : Nat} : mkB a b c d i = true ↔ bothV a b c d (prb (endsL [(a, b), (c, d)]) i) := by unfold mkB bothV; rw [decide_eq_true_iff]
theorem mksL_len {a b c d : Rat} : (mksL a b c d).length = (endsL [(a, b), (c, d)]).length + 1 := by simp [mksL]
theorem mksL_at {a b c d : Rat} {i : Nat} (h : i < (mksL a b c d).length) : bm (mksL a b c d) i = mkB a b c d i := by rw [bm_get h]; simp [mksL]
theorem endsL_two {a b c d : Rat} : endsL [(a, b), (c, d)] = insQ d (insQ c (insQ b (insQ a []))) := rfl
theorem endsL_srt {a b c d : Rat} : SrtQ (endsL [(a, b), (c, d)]) := by rw [endsL_two]; exact insQ_srt (insQ_srt (insQ_srt (insQ_srt trivial)))
theorem endsL_mem {a b c d y : Rat} : y ∈ endsL [(a, b), (c, d)] ↔ y = a ∨ y = b ∨ y = c ∨ y = d := by
  rw [endsL_two, insQ_mem, insQ_mem, insQ_mem, insQ_mem]; simp only [List.not_mem_nil, or_false]; constructor
  · rintro (h | h | h | h)
    · exact .inr (.inr (.inr h))
    · exact .inr (.inr (.inl h))
    · exact .inr (.inl h)
    · exact .inl h
  · rintro (h | h | h | h)
    · exact .inr (.inr (.inr h))
    · exact .inr (.inr (.inl h))
    · exact .inr (.inl h)
    · exact .inl h
theorem endsL_pos {a b c d : Rat} : 0 < (endsL [(a, b), (c, d)]).length := by rw [endsL_two]; exact insQ_pos
theorem endsL_le {a b c d : Rat} : (endsL [(a, b), (c, d)]).length ≤ 4 := by
  have h1 := insQ_len (x := a) (C := [])
  have h2 := insQ_len (x := b) (C := insQ a [])
  have h3 := insQ_len (x := c) (C := insQ b (insQ a []))
  have h4 := insQ_len (x := d) (C := insQ c (insQ b (insQ a [])))
  rw [endsL_two]; simp only [List.length_nil] at h1; omega
theorem mksL_apart {a b c d : Rat} : ∀ i, i + 1 < (mksL a b c d).length → bm (mksL a b c d) i = true → bm (mksL a b c d) (i + 1) = true → False := fun i hi h1 h2 => by
  rw [mksL_at (by omega), mkB_iff] at h1; rw [mksL_at hi, mkB_iff] at h2; rw [mksL_len] at hi; exact marks_apart endsL_srt (fun y hy => endsL_mem.1 hy) (i := i) (by omega) ⟨h1, h2⟩
def mksN (a b c d : Rat) : Nat := (mksL a b c d).countP id
theorem mksN_pos {a b c d : Rat} : 0 < mksN a b c d ↔ rmax a c < rmin b d := by
  rw [← marks_some endsL_srt (fun y => endsL_mem), mksN, List.countP_pos_iff]; constructor
  · rintro ⟨x, hx, hx2⟩
    obtain ⟨i, hi, e⟩ := List.mem_map.1 hx
    have hi2 := List.mem_range.1 hi
    refine ⟨i, hi2, mkB_iff.1 ?_⟩
    rw [e]; exact hx2
  · rintro ⟨i, hi, h⟩
    exact ⟨mkB a b c d i, List.mem_map.2 ⟨i, List.mem_range.2 hi, rfl⟩, mkB_iff.2 h⟩
theorem refCombine {w : World} {qa qb : Nat} {gu1 gv1 : Bool} {au1 aau1 av1 aav1 : Option Addr} {lu1 cu1 llu1 ccu1 lv1 cv1 llv1 ccv1 : Nat} {gu2 gv2 : Bool} {au2 aau2 av2 aav2 : Option Addr} {lu2 cu2 llu2 ccu2 lv2 cv2 llv2 ccv2 : Nat} [ba : Bx w qa 165 [.bool gu1, .slice au1 lu1 cu1, .slice aau1 llu1 ccu1, .bool gv1, .slice av1 lv1 cv1, .slice aav1 llv1 ccv1, .bool false, .bool false]] [bb : Bx w qb 165 [.bool gu2, .slice au2 lu2 cu2, .slice aau2 llu2 ccu2, .bool gv2, .slice av2 lv2 cv2, .slice aav2 llv2 ccv2, .bool false, .bool false]] {lo1 hi1 lo2 hi2 : Rat} {k : Nat} [jau : CQ w (.agg #[.bool gu1, .slice au1 lu1 cu1, .slice aau1 llu1 ccu1]) lo1 k] [jav : CQ w (.agg #[.bool gv1, .slice av1 lv1 cv1, .slice aav1 llv1 ccv1]) hi1 k] [jbu : CQ w (.agg #[.bool gu2, .slice au2 lu2 cu2, .slice aau2 llu2 ccu2]) lo2 k] [jbv : CQ w (.agg #[.bool gv2, .slice av2 lv2 cv2, .slice aav2 llv2 ccv2]) hi2 k] (b : k ≤ 1000) (hlt1 : lo1 < hi1) (hlt2 : lo2 < hi2) :
    Calls Tryz.prog 173 #[.int .i64 2, .slice (some ⟨qa, 0, none⟩) 1 1, .slice (some ⟨qb, 0, none⟩) 1 1] w (SpLRet w (mksN lo1 hi1 lo2 hi2)) := by
  have hE1 := endsL_pos (a := lo1) (b := hi1) (c := lo2) (d := hi2)
  have hE2 := endsL_le (a := lo1) (b := hi1) (c := lo2) (d := hi2)
  go_enter Tryz.func173, Tryz.ntmps173
  go_upto_region 1 with fail
  have rz : Rn (w.alloc (.cells #[] 165 (0, 0))) (.slice (some ⟨w.heap.size, 0, none⟩) 0 0) 165 8 0 [] w.heap.size (w.alloc (.cells #[] 165 (0, 0))) := Rn.lit (n := 0) (l := []) (h := (inferInstance : Bx (w.alloc (.cells ([] : List Value).toArray 165 (0, 0))) w.heap.size 165 [])) rfl (Nat.le_refl _) (by decide) inferInstance (fun u hu => by cases hu)
  go_wp2_with (first
    | (at_builtin; go_loud (refine app_rn1 (hr := rz) (v := .slice (some ⟨w.heap.size, 0, none⟩) 0 0) rfl (.tmp 14) (.tmp 15) 263 rfl Tryz.underlying263 info_sp rfl (by decide) (by decide) (by decide) inferInstance rfl (fun u hu => by cases hu) rfl (by rfl) ?h1 ?h2 (by decide) ?_); (case h1 => exact SPV.one ⟨gu1, au1, lu1, cu1, aau1, llu1, ccu1, gv1, av1, lv1, cv1, aav1, llv1, ccv1⟩); (case h2 => exact SPV.nd ⟨gu1, au1, lu1, cu1, aau1, llu1, ccu1, gv1, av1, lv1, cv1, aav1, llv1, ccv1⟩); intro g5 c5 w5 i5 i6 i7)
    | (at_builtin; go_loud (refine app_rn1 (v := .slice (some ⟨g5, 0, none⟩) 1 c5) rfl (.tmp 16) (.tmp 17) 263 rfl Tryz.underlying263 info_sp rfl (by decide) (by decide) (by decide) inferInstance rfl (SPV.nd ⟨gu1, au1, lu1, cu1, aau1, llu1, ccu1, gv1, av1, lv1, cv1, aav1, llv1, ccv1⟩) rfl (by rfl) ?h1 ?h2 (by decide) ?_); (case h1 => exact SPV.one ⟨gu2, au2, lu2, cu2, aau2, llu2, ccu2, gv2, av2, lv2, cv2, aav2, llv2, ccv2⟩); (case h2 => exact SPV.nd ⟨gu2, au2, lu2, cu2, aau2, llu2, ccu2, gv2, av2, lv2, cv2, aav2, llv2, ccv2⟩); intro g6 c6 w6 i7 i8 i9))
  have k5 : Kp w w5 := inferInstance
  have k5' := Kp1.mk k5.out
  have k6 : Kp w w6 := inferInstance
  have k6' := Kp1.mk k6.out
  have hsp : PsSP w6 [⟨gu1, au1, lu1, cu1, aau1, llu1, ccu1, gv1, av1, lv1, cv1, aav1, llv1, ccv1⟩, ⟨gu2, au2, lu2, cu2, aau2, llu2, ccu2, gv2, av2, lv2, cv2, aav2, llv2, ccv2⟩] [(lo1, hi1), (lo2, hi2)] k := PsSP.two ⟨Nat.le_refl _, Nat.le_refl _, Nat.le_refl _, Nat.le_refl _⟩
  have hsl : Sl w6 (.slice (some ⟨g6, 0, none⟩) 2 c6) ([⟨gu1, au1, lu1, cu1, aau1, llu1, ccu1, gv1, av1, lv1, cv1, aav1, llv1, ccv1⟩, ⟨gu2, au2, lu2, cu2, aau2, llu2, ccu2, gv2, av2, lv2, cv2, aav2, llv2, ccv2⟩] : List SPV).length (rowSP [⟨gu1, au1, lu1, cu1, aau1, llu1, ccu1, gv1, av1, lv1, cv1, aav1, llv1, ccv1⟩, ⟨gu2, au2, lu2, cu2, aau2, llu2, ccu2, gv2, av2, lv2, cv2, aav2, llv2, ccv2⟩]) w6 := (Sl.ofRn (h := Rn.cast2 i9 rfl rfl) : _)
  with_reducible refine Calls.cPsN (refEnds (V := [⟨gu1, au1, lu1, cu1, aau1, llu1, ccu1, gv1, av1, lv1, cv1, aav1, llv1, ccv1⟩, ⟨gu2, au2, lu2, cu2, aau2, llu2, ccu2, gv2, av2, lv2, cv2, aav2, llv2, ccv2⟩]) (by omega) (by simp)) ?_
  intro w7 _ ea ec E _ ie; have hEl := Lib.hid ie.len
  have hE3 : E.length ≤ 4 := by rw [hEl.out]; exact hE2
  have hE4 : 0 < E.length := by rw [hEl.out]; exact hE1
  clear hE1 hE2; go_wp2_with fail
  with_reducible refine Calls.cPsN (refProbes (V := E) (by omega) (by omega) hE4) ?_
  intro w8 _ pa pc P _ ip
  have hPl : P.length = E.length + 1 := by rw [ip.len, hEl.out]; simp
  have hP0 : 0 < P.length := (by omega); have hP5 : P.length ≤ 5 := (by omega); have HPl := Lib.hid hPl; obtain ⟨pg8, rfl, hPA⟩ := (inferInstance : Sl w8 (.slice pa P.length pc) P.length (rowQ P) w8).form hP0; clear hPl; go_wp2_with fail
  go_loopw [23, 8] (fun i o wr => ∃ q : Nat, i = .int .i64 (q : Int) ∧ q ≤ P.length ∧ Rn wr o 4 1 q (rowBl ((List.range q).map (mkB lo1 hi1 lo2 hi2))) w8.heap.size wr ∧ Kp w8 wr) (fun i _ _ => P.length - (intOf i).toNat)
  case atStart => exact ⟨0, rfl, by omega, Rn.nil (Nat.le_refl _), inferInstance⟩
  case round =>
    obtain ⟨q, rfl, hq, i1, i2⟩ := hrel; have kw := Kp1.mk i2.out
    by_cases hlt : q < P.length
    · have hlt' : (q : Int) < P.length := by omega
      have lq : LtN q P.length := ⟨hlt⟩
      have ew : IntKind.i64.wrap ((q : Int) + 1) = (q : Int) + 1 := wr_in (by omega) (by omega)
      obtain ⟨t, ht⟩ : ∃ t, qg ((List.range ((endsL [(lo1, hi1), (lo2, hi2)]).length + 1)).map (prb (endsL [(lo1, hi1), (lo2, hi2)]))) q = t := ⟨_, rfl⟩
      have et : t = prb (endsL [(lo1, hi1), (lo2, hi2)]) q := by
        rw [← ht, qg_get (by rw [← ip.len]; exact hlt)]; simp
      obtain ⟨v1, hv1⟩ : ∃ v1, decide (lo1 < t ∧ t < hi1) = v1 := ⟨_, rfl⟩; obtain ⟨v2, hv2⟩ : ∃ v2, decide (lo2 < t ∧ t < hi2) = v2 := ⟨_, rfl⟩; have HV := Lib.hid hv1; have HW := Lib.hid hv2; have HT := Lib.hid ht
      have HM : Hid (mkB lo1 hi1 lo2 hi2 q = (v1 && v2)) := Lib.hid (by
        rw [← hv1, ← hv2, et, ← Bool.decide_and]; rfl)
      have jt : CQ wr (.agg #[.bool (qv P q).g, .slice (qv P q).a (qv P q).n (qv P q).c, .slice (qv P q).aa (qv P q).nn (qv P q).cc]) t (2 * k + 60) := by rw [← ht]; exact inferInstance
      clear ht et hv1 hv2 ip
      go_upto_region 6 with (with_reducible refine step_ld (t := 45) (x := .tmp 25) rfl rfl rfl (load_Qv (k := q) hlt) ?_)
      go_cut [11, 12] from 27 to 32 (fun s u wz => s = .bool v1 ∧ u = .bool v2 ∧ Kp wr wz)
      case first =>
        refine rgn [] [] fun hH => ?_; refine tk 0 hH ?_; refine tk 1 hH ?_; refine tk 3 hH ?_; refine tk 4 hH ?_; refine st 2 fun K hK => ?_; go_simp; (with_reducible refine Calls.cE (refIn1 (lo := lo1) (hi := hi1) (t := t) (by omega) hlt1 HV) ?_); intros; refine hd hK ?_; clear hH hK K; intro hH; refine st 5 fun K hK => ?_; go_simp; (with_reducible refine Calls.cE (refIn1 (lo := lo2) (hi := hi2) (t := t) (by omega) hlt2 HW) ?_); intros; refine hd hK ?_; clear hH hK K; intro hH; refine tk 6 hH ?_; refine tk 7 hH ?_; refine dn ?_; clear hH; go_wp2_with fail; go_meet; exact ⟨rfl, rfl, inferInstance⟩
      case rest =>
        obtain ⟨rfl, rfl, n1⟩ := hcut; have kc := Kp1.mk n1.out
        cases v1 <;> cases v2
        all_goals
          go_wp2_with (at_builtin; go_loud (refine app_rn1 (v := u8) rfl (.tmp 56) (.tmp 58) 314 rfl Tryz.underlying314 info_bl rfl (by decide) (by decide) (by decide) inferInstance rfl (rowBl_nd _) rfl (by rfl) (by simp [Value.oneCell']) (by simp [isDigit32]) (by omega) ?_); intro g5 c5 w9 i9 i10 i11)
          go_roundw
          case rel => exact ⟨q + 1, by go_num, by omega, Rn.cast2 i11 rfl (by rw [List.range_succ, List.map_append, List.map_cons, List.map_nil, rowBl_snoc, HM.out]; rfl), inferInstance⟩
          case measure => simp [intOf]; omega
    · obtain rfl : q = P.length := by omega
      obtain ⟨ma, mc, rfl⟩ := i1.slice
      have hml : (mksL lo1 hi1 lo2 hi2).length = P.length := by rw [mksL_len, HPl.out, hEl.out]
      have hsm : Sl wr (.slice ma P.length mc) (mksL lo1 hi1 lo2 hi2).length (rowBl (mksL lo1 hi1 lo2 hi2)) wr := by
        rw [hml]
        have h := (Sl.ofRn (h := i1.here) : _)
        rw [show (List.range P.length).map (mkB lo1 hi1 lo2 hi2) = mksL lo1 hi1 lo2 hi2 by rw [mksL, ← hEl.out, ← HPl.out]] at h
        exact h
      clear i1; go_wp2_with fail
      with_reducible refine Calls.cSpL (refFrom (V := E) (M := mksL lo1 hi1 lo2 hi2) (by rw [hml, HPl.out]) hE4 (by omega) mksL_apart) ?_
      intro w9 _ ra rc R _ hR; go_wp2_with fail; go_ret; exact ⟨ra, rc, R, hR.out, rfl, Sl.here inferInstance, (inferInstance : Kp w _).out⟩
end
end Go.Proofs.YtdlnoeegboapkaaGreatDoor
