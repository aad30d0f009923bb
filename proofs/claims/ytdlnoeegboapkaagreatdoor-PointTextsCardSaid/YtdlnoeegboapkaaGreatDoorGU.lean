/-
  Texts of this claim, joined: LawPT.
-/
import Derived.Test.YtdlnoeegboapkaaGreatDoorGT
/- The law PointTexts. printed by a small program (mkpt5.py). -/
namespace Go.Proofs.YtdlnoeegboapkaaGreatDoor
open Go.RowKit
set_option maxRecDepth 100000
set_option maxHeartbeats 40000000
set_option synthInstance.maxSize 100000
set_option synthInstance.maxHeartbeats 1000000
set_option maxRecDepth 100000
set_option maxHeartbeats 40000000
set_option synthInstance.maxSize 100000
set_option synthInstance.maxHeartbeats 1000000
set_option linter.unusedVariables false
set_option linter.unusedSimpArgs false

theorem ptT_size {s t : ByteArray} : (ptT s t).size = s.size + t.size + 3 := by rw [str_len, str_len s, str_len t, ptT_data]; simp; omega
theorem parse_pt {w w1 w2 w3 : World} {S : ByteArray} {x y : Rat} {a0 a1 a2 : Addr} [h0 : Snt w 0 a0 w1] [h1 : Snt w 2 a1 w2] [h2 : Snt w 1 a2 w3] (hne : a1 ≠ a0) (hne2 : a2 ≠ a0) (hS : ptT (fmtQ x) (fmtQ y) = S) (hsz : S.size ≤ 1000000) (hx1 : (dl x.num.natAbs).length ≤ 4000) (hx2 : (dl x.den).length ≤ 4000) (hy1 : (dl y.num.natAbs).length ≤ 4000) (hy2 : (dl y.den).length ≤ 4000) : Calls Tryz.prog 13 #[.string S] w (PtRet w x y 5000) := by
  subst hS
  obtain ⟨p1, p2, p3, p4, p5⟩ := ptT_parts (t := fmtQ y) (fmtQ_ne44 x)
  exact pp_00 hne hne2 hsz p1 p2 p3 (by rw [p4]; exact fmtQ_kind hx1 hx2) (by rw [p5]; exact fmtQ_kind hy1 hy2)
theorem rK013 {l : List UInt8} (h : l.length ≤ 4000) : rKind l = 0 ∨ rKind l = 1 ∨ rKind l = 3 := by
  have hc1 := cutL_len l
  have hc2 := cutR_len l
  have hc3 := iDig_len (cutL l)
  have pk : ∀ l : List UInt8, l.length ≤ 4000 → pKind l = 0 ∨ pKind l = 1 := fun l h => by
    rcases pKind_cases l with h1 | h1 | h1
    · exact .inr h1
    · have := pk2 h1; omega
    · exact .inl h1
  have he := pk (iDig (cutL l)) (by omega)
  have hf := pk (cutR l) (by omega)
  unfold rKind rKindF
  cases hasSlash l <;> rcases he with e | e <;> rcases hf with f | f <;> rw [e] <;> simp [f] <;> omega
theorem readQ0 {w : World} {s : ByteArray} {l : List UInt8} {x : Rat} (hsz : s.size ≤ 4000) (hl : s.data.toList = l) (hk : rKind l = 0 ∧ rVal l = x) : Calls Tryz.prog 19 #[.string s] w (ReadQRet w x 0) := by
  subst hl
  obtain ⟨q, h, hq⟩ := readQU (w := w) hsz
  rw [hk.1] at h
  rw [← hk.2, ← hq hk.1]; exact h
def ReadQx (w : World) (k : Nat) (e : Ending) (w' : World) : Prop := ∃ q, ReadQRet w q k e w'
theorem readQk {w : World} {s : ByteArray} {l : List UInt8} {k : Nat} (hsz : s.size ≤ 4000) (hl : s.data.toList = l) (hk : rKind l = k) : Calls Tryz.prog 19 #[.string s] w (ReadQx w k) := by
  subst hl
  obtain ⟨q, h, hq⟩ := readQU (w := w) hsz
  rw [hk] at h
  exact h.mono fun e w' h => ⟨q, h⟩
theorem Calls.kReadQx {P : Program} {f : FuncId} {args : Array Value} {w : World} {k : Nat} {K : Ending → World → Prop} (h : Calls P f args w (ReadQx w k))
    (hK : ∀ w' [Kp1 w w'] g a l c aa ll cc q [CQ w' (.agg #[.bool g, .slice a l c, .slice aa ll cc]) q 9000], K (.returned (.tuple #[.agg #[.bool g, .slice a l c, .slice aa ll cc], .int .i64 ((k : Nat) : Int)])) w') : Calls P f args w K := by
  refine h.mono ?_
  rintro e w' ⟨q, g, a, l, c, aa, ll, cc, rfl, hx, hb⟩
  exact @hK w' ⟨hb⟩ g a l c aa ll cc q hx
instance CZ.zz {W : World} : CZ W (.agg #[.bool false, .slice none 0 0]) 0 0 := ⟨⟨_, _, _, _, rfl, rfl, Nn.nil W 0⟩⟩
theorem sameB_nf (m n : Nat) : sameB (nf m) (nf n) = decide (m = n) := by
  rw [Bool.eq_iff_iff]
  simp only [sameB, decide_eq_true_eq]
  exact ⟨nf_inj, fun h => by rw [h]⟩
theorem sameNG {w : World} {a1 a2 : Option Addr} {l1 c1 l2 c2 m n k1 k2 : Nat} [h1 : CN w (.slice a1 l1 c1) m k1] [h2 : CN w (.slice a2 l2 c2) n k2] :
    Calls Tryz.prog 100 #[.slice a1 l1 c1, .slice a2 l2 c2] w fun e w' => e = .returned (.bool (decide (m = n))) ∧ Below w.heap.size w w' := by
  rw [← sameB_nf]
  exact sameN_any _ _ _ _ _ h1.out.1 h2.out.1
theorem sameQ0 {w : World} : Calls Tryz.prog 39 #[.agg #[.bool false, .slice none 0 0, .slice none 0 0], .agg #[.bool false, .slice none 0 0, .slice none 0 0]] w (fun e w' => e = .returned (.bool true) ∧ Below w.heap.size w w') := by
  go_enter Tryz.func39, Tryz.ntmps39
  go_wp2_with (first
    | (go_at_call 99; (with_reducible refine Calls.cE (sameIC rfl) ?_); intros)
    | (go_at_call 100; (with_reducible refine Calls.cE (sameNG (m := 0) (n := 0)) ?_); intros))
  go_ret
  exact E.fin rfl
theorem sameP0 {w : World} : Calls Tryz.prog 20 #[.agg #[.bool false, .slice none 0 0, .slice none 0 0, .bool false, .slice none 0 0, .slice none 0 0], .agg #[.bool false, .slice none 0 0, .slice none 0 0, .bool false, .slice none 0 0, .slice none 0 0]] w fun e w' => e = .returned (.bool true) ∧ Below w.heap.size w w' := by
  go_enter Tryz.func20, Tryz.ntmps20
  go_wp2_with (first
    | (go_at_call 39; (with_reducible refine Calls.cE (sameQ0) ?_); intros))
  go_ret
  exact E.fin rfl
theorem pFormatS {w : World} {g1x g1y : Bool} {a1x aa1x a1y aa1y : Option Addr} {l1x c1x ll1x cc1x l1y c1y ll1y cc1y k1x k1y : Nat} {x y : Rat} [h1x : CW w (.agg #[.bool g1x, .slice a1x l1x c1x, .slice aa1x ll1x cc1x]) x k1x] [h1y : CW w (.agg #[.bool g1y, .slice a1y l1y c1y, .slice aa1y ll1y cc1y]) y k1y] (b : k1x ≤ 100000 ∧ k1y ≤ 100000) {S : ByteArray} (hx1 : (dl x.num.natAbs).length ≤ 4000) (hx2 : (dl x.den).length ≤ 4000) (hy1 : (dl y.num.natAbs).length ≤ 4000) (hy2 : (dl y.den).length ≤ 4000) (hS : ptT (fmtQ x) (fmtQ y) = S) (hsz : S.size ≤ 1000000) :
    Calls Tryz.prog 14 #[.agg #[.bool g1x, .slice a1x l1x c1x, .slice aa1x ll1x cc1x, .bool g1y, .slice a1y l1y c1y, .slice aa1y ll1y cc1y]] w (fun e w' => e = .returned (.string S) ∧ Below w.heap.size w w') := by
  subst hS
  have := ptT_size (s := fmtQ x) (t := fmtQ y)
  exact pFormatV (by omega) (by omega) (by omega) (by omega) (by omega) rfl rfl (by omega) (by omega)
theorem refTextS {w : World} {g1x g1y : Bool} {a1x aa1x a1y aa1y : Option Addr} {l1x c1x ll1x cc1x l1y c1y ll1y cc1y k1x k1y : Nat} {x y : Rat} [h1x : CQ w (.agg #[.bool g1x, .slice a1x l1x c1x, .slice aa1x ll1x cc1x]) x k1x] [h1y : CQ w (.agg #[.bool g1y, .slice a1y l1y c1y, .slice aa1y ll1y cc1y]) y k1y] (b : k1x ≤ 100000 ∧ k1y ≤ 100000) {S : ByteArray} (hx1 : (dl x.num.natAbs).length ≤ 4000) (hx2 : (dl x.den).length ≤ 4000) (hy1 : (dl y.num.natAbs).length ≤ 4000) (hy2 : (dl y.den).length ≤ 4000) (hS : ptT (fmtQ x) (fmtQ y) = S) (hsz : S.size ≤ 1000000) :
    Calls Tryz.prog 17 #[.agg #[.bool g1x, .slice a1x l1x c1x, .slice aa1x ll1x cc1x, .bool g1y, .slice a1y l1y c1y, .slice aa1y ll1y cc1y]] w (fun e w' => e = .returned (.string S) ∧ Below w.heap.size w w') := by
  subst hS
  have := ptT_size (s := fmtQ x) (t := fmtQ y)
  exact refTextV (by omega) (by omega) (by omega) (by omega) (by omega) rfl rfl (by omega) (by omega)
theorem pointTexts_walk (s : ByteArray) (a0 : Option Addr) (len0 cap0 : Nat) (z0 : List Int) (w : World) (_ : s.size ≤ maxLen) (w0 : IsRow .i64 w a0 len0 cap0 z0) (hL : laidMetH Tryz.prog laid3 w) :
    Calls Tryz.prog 3 #[.string s, .slice a0 len0 cap0] w fun e w' => e = .returned (.bool true) ∧ Below w.heap.size w w' := by
  obtain ⟨s0, s1, s2, i0, i1, i2, hne, hne2⟩ := sents3b hL
  clear hL
  by_cases h100 : s.size ≤ 100
  · have h1 : (s.size : Int) ≤ 100 := by omega
    go_enter Tryz.func3, Tryz.ntmps3
    go_wp2_with fail
    with_reducible refine Calls.cNew (newW (w0.keep (inferInstance : Kp w _).out)) ?_
    intro W1 _ _
    go_wp2_with fail
    with_reducible refine Calls.cTR roughC ?_
    intro W2 _ _ g1 a1 l1 c1 aa1 ll1 cc1 g2 a2 l2 c2 aa2 ll2 cc2 x y j1 j2
    obtain ⟨hx1, hx2⟩ := cw_dl j1 (t := 3000) (by omega) (by omega)
    obtain ⟨hy1, hy2⟩ := cw_dl j2 (t := 3000) (by omega) (by omega)
    replace hx1 : (dl x.num.natAbs).length ≤ 4000 := by omega
    replace hx2 : (dl x.den).length ≤ 4000 := by omega
    replace hy1 : (dl y.num.natAbs).length ≤ 4000 := by omega
    replace hy2 : (dl y.den).length ≤ 4000 := by omega
    obtain ⟨S, HS⟩ : ∃ S, Hid (ptT (fmtQ x) (fmtQ y) = S) := ⟨_, rfl⟩
    have HSZ : Hid (S.size ≤ 1000000) := by
      have h1 := fmtQ_size x
      have h2 := fmtQ_size y
      have h3 := ptT_size (s := fmtQ x) (t := fmtQ y)
      rw [HS.out] at h3
      show _ ≤ _; omega
    go_wp2_with fail
    with_reducible refine Calls.cE (pFormatS (by omega) hx1 hx2 hy1 hy2 HS.out HSZ.out) ?_
    intro W3 _
    go_wp2_with fail
    with_reducible refine Calls.kPt (parse_pt hne hne2 HS.out HSZ.out hx1 hx2 hy1 hy2) ?_
    intro W4 _ g3 a3 l3 c3 aa3 ll3 cc3 g4 a4 l4 c4 aa4 ll4 cc4 _ _
    go_wp2_with fail
    refine rgn [] [] fun hHeld => ?_
    refine tk 0 hHeld ?_
    refine tk 1 hHeld ?_
    refine tk 2 hHeld ?_
    refine tk 3 hHeld ?_
    refine tk 4 hHeld ?_
    refine st 5 fun K hK => ?_
    go_simp
    (with_reducible refine Calls.cPQ (refPtC (by omega)) ?_); intros
    refine hd hK ?_
    clear hHeld hK K
    intro hHeld
    refine st 6 fun K hK => ?_
    go_simp
    (with_reducible refine Calls.cE (same04C (by omega) rfl rfl) ?_); intros
    refine hd hK ?_
    clear hHeld hK K
    intro hHeld
    refine tk 7 hHeld ?_
    refine tk 8 hHeld ?_
    refine tk 9 hHeld ?_
    refine tk 10 hHeld ?_
    refine tk 12 hHeld ?_
    refine st 11 fun K hK => ?_
    go_simp
    (with_reducible refine Calls.cE (pFormatS (by omega) hx1 hx2 hy1 hy2 HS.out HSZ.out) ?_); intros
    refine hd hK ?_
    clear hHeld hK K
    intro hHeld
    refine st 13 fun K hK => ?_
    go_simp
    (with_reducible refine Calls.cPQ (refPtC (by omega)) ?_); intros
    refine hd hK ?_
    clear hHeld hK K
    intro hHeld
    refine st 14 fun K hK => ?_
    go_simp
    (with_reducible refine Calls.cE (refTextS (by omega) hx1 hx2 hy1 hy2 HS.out HSZ.out) ?_); intros
    refine hd hK ?_
    clear hHeld hK K
    intro hHeld
    refine tk 15 hHeld ?_
    refine tk 16 hHeld ?_
    refine dn ?_
    clear hHeld
    go_wp2_with fail

    cases hok : okF s.data.toList with
    | false =>
      with_reducible refine Calls.kErr (pp_bad hne hne2 (by omega) hok) ?_
      intro W5 _ b5 t5 _ _
      go_wp2_with fail
      go_loop [10, 11] (fun cv iv => ∃ j : Nat, j ≤ s.size ∧ iv = .int .i64 (j : Int) ∧ cv = .int .i64 (cmJ s.data.toList j)) (fun _ iv => s.size - (intOf iv).toNat)
      case atStart => exact ⟨0, Nat.zero_le _, rfl, by rw [cmJ_zero]⟩
      case round =>
        obtain ⟨j, hj, rfl, rfl⟩ := hrel
        by_cases h0 : j < s.size
        · have hix := ix_str s j h0
          have hlt : (j : Int) < (s.size : Int) := by omega
          have hw : IntKind.i64.wrap ((j : Int) + 1) = (j : Int) + 1 := by simp [IntKind.wrap, IntKind.signed, IntKind.bits]; omega
          by_cases hb : byteAt s j = 44
          · have hb2 : (((byteAt s j).toNat : Int) == 44) = true := by rw [hb]; rfl
            by_cases hc : cmJ s.data.toList j < 0
            · have HST := Lib.hid (cmJ_hit h0 hb hc)
              clear hb
              go_wp2
              go_round
              case rel => exact ⟨j + 1, by omega, by simp, by rw [HST.out]⟩
              case measure => simp [intOf]; omega
            · have hc2 : 0 ≤ cmJ s.data.toList j := by omega
              have HST := Lib.hid (cmJ_miss h0 (.inr hc2))
              clear hb hc
              go_wp2
              go_round
              case rel => exact ⟨j + 1, by omega, by simp, by rw [HST.out]⟩
              case measure => simp [intOf]; omega
          · have hb2 : (((byteAt s j).toNat : Int) == 44) = false := by
              rw [beq_eq_false_iff_ne]
              intro h
              exact hb (UInt8.toNat_inj.1 (by show _ = 44; omega))
            have HST := Lib.hid (cmJ_miss h0 (.inl hb))
            clear hb
            go_wp2
            go_round
            case rel => exact ⟨j + 1, by omega, by simp, by rw [HST.out]⟩
            case measure => simp [intOf]; omega
        · obtain rfl : j = s.size := by omega
          obtain ⟨C, hC⟩ : ∃ C, cmJ s.data.toList s.size = C := ⟨_, rfl⟩
          rw [hC]
          have HBAD := hok
          rw [Bool.eq_false_iff, ne_eq, okF_iff, hC] at HBAD
          by_cases t1 : s.size < 3
          · have t1' : (s.size : Int) < 3 := by omega
            clear HBAD
            go_wp2_with (first
                | (go_at_call 10; (with_reducible refine Calls.cE known04C ?_); intros)
                | (go_at_call 18; (with_reducible refine Calls.cS isSameC ?_)))
            go_ret
            exact E.fin rfl
          · have t1' : (3 : Int) ≤ (s.size : Int) := by omega
            have t1b : ((s.size : Int) < 3) ↔ False := ⟨fun h => by omega, False.elim⟩
            have hs0 : 0 < s.size := by omega
            by_cases t2 : byteAt s 0 = 40
            · have t2' : (((s[0]'hs0).toNat : Int)) = 40 := by rw [byteAt_eq, t2]; rfl
              obtain ⟨n, hn⟩ : ∃ n, n = s.size - 1 := ⟨_, rfl⟩
              have hw : IntKind.i64.wrap ((s.size : Int) - 1) = (n : Int) := by simp [IntKind.wrap, IntKind.signed, IntKind.bits]; omega
              have hix1 := ix_str s n (by omega)
              by_cases t3 : byteAt s n = 41
              · have t3' : ((byteAt s n).toNat : Int) = 41 := by rw [t3]; rfl
                have t4 : C < 1 := by
                  by_cases h : C < 1
                  · exact h
                  · exact absurd ⟨by omega, t2, by rw [← hn]; exact t3, by omega⟩ HBAD
                clear HBAD t2 t3 hn t1
                go_wp2_with (first
                    | (go_at_call 10; (with_reducible refine Calls.cE known04C ?_); intros)
                    | (go_at_call 18; (with_reducible refine Calls.cS isSameC ?_)))
                go_ret
                exact E.fin rfl
              · have t3' : ¬ ((byteAt s n).toNat : Int) = 41 := by
                  intro h
                  exact t3 (UInt8.toNat_inj.1 (by show _ = 41; omega))
                clear HBAD t2 t3 hn t1
                go_wp2_with (first
                    | (go_at_call 10; (with_reducible refine Calls.cE known04C ?_); intros)
                    | (go_at_call 18; (with_reducible refine Calls.cS isSameC ?_)))
                go_ret
                exact E.fin rfl
            · have t2' : ¬ ((s[0]'hs0).toNat : Int) = 40 := by
                rw [byteAt_eq]
                intro h
                exact t2 (UInt8.toNat_inj.1 (by show _ = 40; omega))
              clear HBAD t2 t1
              go_wp2_with (first
                  | (go_at_call 10; (with_reducible refine Calls.cE known04C ?_); intros)
                  | (go_at_call 18; (with_reducible refine Calls.cS isSameC ?_)))
              go_ret
              exact E.fin rfl
    | true =>
      obtain ⟨m, em, em2, hm, hp1, hp2⟩ := okF_split hok
      have hp3 : hasCom (inT s.data.toList) = true := by rw [em2]; exact hm
      have hlen := str_len s
      have hll : (inT s.data.toList).length ≤ s.data.toList.length := Nat.le_trans (sufT_len _ _) (preT_len _ _)
      have hl2 := comL_len (inT s.data.toList)
      have hl3 := comR_len (inT s.data.toList)
      have r1 := rK013 (l := comL (inT s.data.toList)) (by omega)
      have r2 := rK013 (l := comR (inT s.data.toList)) (by omega)
      clear em em2 hm hlen hll hl2 hl3
      rcases r1 with r1 | r1 | r1
      · obtain ⟨y1, hy1'⟩ : ∃ y, rVal (comL (inT s.data.toList)) = y := ⟨_, rfl⟩; have HK1 : Hid (rKind (comL (inT s.data.toList)) = 0 ∧ rVal (comL (inT s.data.toList)) = y1) := ⟨r1, hy1'⟩; clear hy1'
        rcases r2 with r2 | r2 | r2
        · obtain ⟨y2, hy2'⟩ : ∃ y, rVal (comR (inT s.data.toList)) = y := ⟨_, rfl⟩; have HK2 : Hid (rKind (comR (inT s.data.toList)) = 0 ∧ rVal (comR (inT s.data.toList)) = y2) := ⟨r2, hy2'⟩; clear hy2'
          clear r1 r2
          with_reducible refine Calls.kPt (pp_00 hne hne2 (by omega) hp1 hp2 hp3 HK1.out HK2.out) ?_
          intro W5 _ g5 a5 l5 c5 aa5 ll5 cc5 g6 a6 l6 c6 aa6 ll6 cc6 _ _
          go_wp2_with fail
          go_loop [10, 11] (fun cv iv => ∃ j : Nat, j ≤ s.size ∧ iv = .int .i64 (j : Int) ∧ cv = .int .i64 (cmJ s.data.toList j)) (fun _ iv => s.size - (intOf iv).toNat)
          case atStart => exact ⟨0, Nat.zero_le _, rfl, by rw [cmJ_zero]⟩
          case round =>
            obtain ⟨j, hj, rfl, rfl⟩ := hrel
            by_cases h0 : j < s.size
            · have hix := ix_str s j h0
              have hlt : (j : Int) < (s.size : Int) := by omega
              have hw : IntKind.i64.wrap ((j : Int) + 1) = (j : Int) + 1 := by simp [IntKind.wrap, IntKind.signed, IntKind.bits]; omega
              by_cases hb : byteAt s j = 44
              · have hb2 : (((byteAt s j).toNat : Int) == 44) = true := by rw [hb]; rfl
                by_cases hc : cmJ s.data.toList j < 0
                · have HST := Lib.hid (cmJ_hit h0 hb hc)
                  clear hb
                  go_wp2
                  go_round
                  case rel => exact ⟨j + 1, by omega, by simp, by rw [HST.out]⟩
                  case measure => simp [intOf]; omega
                · have hc2 : 0 ≤ cmJ s.data.toList j := by omega
                  have HST := Lib.hid (cmJ_miss h0 (.inr hc2))
                  clear hb hc
                  go_wp2
                  go_round
                  case rel => exact ⟨j + 1, by omega, by simp, by rw [HST.out]⟩
                  case measure => simp [intOf]; omega
              · have hb2 : (((byteAt s j).toNat : Int) == 44) = false := by
                  rw [beq_eq_false_iff_ne]
                  intro h
                  exact hb (UInt8.toNat_inj.1 (by show _ = 44; omega))
                have HST := Lib.hid (cmJ_miss h0 (.inl hb))
                clear hb
                go_wp2
                go_round
                case rel => exact ⟨j + 1, by omega, by simp, by rw [HST.out]⟩
                case measure => simp [intOf]; omega
            · obtain rfl : j = s.size := by omega
              obtain ⟨C, hC⟩ : ∃ C, cmJ s.data.toList s.size = C := ⟨_, rfl⟩
              rw [hC]
              have HG := okF_iff.1 hok
              rw [hC] at HG
              obtain ⟨t1, t2, t3, t4⟩ := HG
              obtain ⟨c, rfl⟩ : ∃ c : Nat, C = (c : Int) := ⟨C.toNat, by omega⟩
              obtain ⟨u1, u2, hPL, hPR⟩ := okF_parts hok hC
              have t1' : (3 : Int) ≤ (s.size : Int) := by omega
              have t1b : ((s.size : Int) < 3) ↔ False := ⟨fun h => by omega, False.elim⟩
              have hs0 : 0 < s.size := by omega
              have t2' : (((s[0]'hs0).toNat : Int)) = 40 := by rw [byteAt_eq, t2]; rfl
              obtain ⟨n, hn⟩ : ∃ n, n = s.size - 1 := ⟨_, rfl⟩
              have hw : IntKind.i64.wrap ((s.size : Int) - 1) = (n : Int) := by simp [IntKind.wrap, IntKind.signed, IntKind.bits]; omega
              have hix1 := ix_str s n (by omega)
              have t3' : ((byteAt s n).toNat : Int) = 41 := by rw [hn, t3]; rfl
              have t4' : ((c : Int) < 1) ↔ False := ⟨fun h => by omega, False.elim⟩
              have v1 : (1 : Int) ≤ (c : Int) := by omega
              have v2 : (c : Int) ≤ (s.size : Int) := by omega
              have v3 : IntKind.i64.wrap ((c : Int) + 1) = (c : Int) + 1 := by simp [IntKind.wrap, IntKind.signed, IntKind.bits]; omega
              have v4 : (c : Int) + 1 ≤ (n : Int) := by omega
              have v5 : (n : Int) ≤ (s.size : Int) := by omega
              have v6 : (0 : Int) ≤ (c : Int) + 1 := by omega
              have HPL := Lib.hid hPL
              have HPR : Hid ((s.extract (c + 1) n).data.toList = comR (inT s.data.toList)) := by show _ = _; rw [hn]; exact hPR
              have z1 : (s.extract 1 c).size ≤ 4000 := by rw [ByteArray.size_extract]; omega
              have z2 : (s.extract (c + 1) n).size ≤ 4000 := by rw [ByteArray.size_extract]; omega
              clear t1 t2 t3 t4 u1 u2 hPL hPR hn hC hok
              go_wp2_with fail
              with_reducible refine Calls.kReadQ (readQ0 z1 HPL.out HK1.out) ?_
              intro W6 _ p1 q1 r1 o1 pp1 qq1 rr1 _
              go_wp2_with fail
              with_reducible refine Calls.kReadQ (readQ0 z2 HPR.out HK2.out) ?_
              intro W7 _ p2 q2 r2 o2 pp2 qq2 rr2 _
              go_wp2_with (first
                  | (go_at_call 10; (with_reducible refine Calls.cE known04C ?_); intros)
                  | (go_at_call 18; (with_reducible refine Calls.cS isSameC ?_))
                  | (go_at_call 20; (with_reducible refine Calls.cE sameP0 ?_); intros)
                  | (go_at_call 15; (with_reducible refine Calls.cE (same04C (by omega) rfl rfl) ?_); intros))
              go_ret
              exact E.fin rfl
        · have HK2 := Lib.hid r2
          clear r1 r2
          with_reducible refine Calls.kErr (pp_01 hne hne2 (by omega) hp1 hp2 hp3 HK1.out HK2.out) ?_
          intro W5 _ b5 t5 _ _
          go_wp2_with fail
          go_loop [10, 11] (fun cv iv => ∃ j : Nat, j ≤ s.size ∧ iv = .int .i64 (j : Int) ∧ cv = .int .i64 (cmJ s.data.toList j)) (fun _ iv => s.size - (intOf iv).toNat)
          case atStart => exact ⟨0, Nat.zero_le _, rfl, by rw [cmJ_zero]⟩
          case round =>
            obtain ⟨j, hj, rfl, rfl⟩ := hrel
            by_cases h0 : j < s.size
            · have hix := ix_str s j h0
              have hlt : (j : Int) < (s.size : Int) := by omega
              have hw : IntKind.i64.wrap ((j : Int) + 1) = (j : Int) + 1 := by simp [IntKind.wrap, IntKind.signed, IntKind.bits]; omega
              by_cases hb : byteAt s j = 44
              · have hb2 : (((byteAt s j).toNat : Int) == 44) = true := by rw [hb]; rfl
                by_cases hc : cmJ s.data.toList j < 0
                · have HST := Lib.hid (cmJ_hit h0 hb hc)
                  clear hb
                  go_wp2
                  go_round
                  case rel => exact ⟨j + 1, by omega, by simp, by rw [HST.out]⟩
                  case measure => simp [intOf]; omega
                · have hc2 : 0 ≤ cmJ s.data.toList j := by omega
                  have HST := Lib.hid (cmJ_miss h0 (.inr hc2))
                  clear hb hc
                  go_wp2
                  go_round
                  case rel => exact ⟨j + 1, by omega, by simp, by rw [HST.out]⟩
                  case measure => simp [intOf]; omega
              · have hb2 : (((byteAt s j).toNat : Int) == 44) = false := by
                  rw [beq_eq_false_iff_ne]
                  intro h
                  exact hb (UInt8.toNat_inj.1 (by show _ = 44; omega))
                have HST := Lib.hid (cmJ_miss h0 (.inl hb))
                clear hb
                go_wp2
                go_round
                case rel => exact ⟨j + 1, by omega, by simp, by rw [HST.out]⟩
                case measure => simp [intOf]; omega
            · obtain rfl : j = s.size := by omega
              obtain ⟨C, hC⟩ : ∃ C, cmJ s.data.toList s.size = C := ⟨_, rfl⟩
              rw [hC]
              have HG := okF_iff.1 hok
              rw [hC] at HG
              obtain ⟨t1, t2, t3, t4⟩ := HG
              obtain ⟨c, rfl⟩ : ∃ c : Nat, C = (c : Int) := ⟨C.toNat, by omega⟩
              obtain ⟨u1, u2, hPL, hPR⟩ := okF_parts hok hC
              have t1' : (3 : Int) ≤ (s.size : Int) := by omega
              have t1b : ((s.size : Int) < 3) ↔ False := ⟨fun h => by omega, False.elim⟩
              have hs0 : 0 < s.size := by omega
              have t2' : (((s[0]'hs0).toNat : Int)) = 40 := by rw [byteAt_eq, t2]; rfl
              obtain ⟨n, hn⟩ : ∃ n, n = s.size - 1 := ⟨_, rfl⟩
              have hw : IntKind.i64.wrap ((s.size : Int) - 1) = (n : Int) := by simp [IntKind.wrap, IntKind.signed, IntKind.bits]; omega
              have hix1 := ix_str s n (by omega)
              have t3' : ((byteAt s n).toNat : Int) = 41 := by rw [hn, t3]; rfl
              have t4' : ((c : Int) < 1) ↔ False := ⟨fun h => by omega, False.elim⟩
              have v1 : (1 : Int) ≤ (c : Int) := by omega
              have v2 : (c : Int) ≤ (s.size : Int) := by omega
              have v3 : IntKind.i64.wrap ((c : Int) + 1) = (c : Int) + 1 := by simp [IntKind.wrap, IntKind.signed, IntKind.bits]; omega
              have v4 : (c : Int) + 1 ≤ (n : Int) := by omega
              have v5 : (n : Int) ≤ (s.size : Int) := by omega
              have v6 : (0 : Int) ≤ (c : Int) + 1 := by omega
              have HPL := Lib.hid hPL
              have HPR : Hid ((s.extract (c + 1) n).data.toList = comR (inT s.data.toList)) := by show _ = _; rw [hn]; exact hPR
              have z1 : (s.extract 1 c).size ≤ 4000 := by rw [ByteArray.size_extract]; omega
              have z2 : (s.extract (c + 1) n).size ≤ 4000 := by rw [ByteArray.size_extract]; omega
              clear t1 t2 t3 t4 u1 u2 hPL hPR hn hC hok
              go_wp2_with fail
              with_reducible refine Calls.kReadQ (readQ0 z1 HPL.out HK1.out) ?_
              intro W6 _ p1 q1 r1 o1 pp1 qq1 rr1 _
              go_wp2_with fail
              with_reducible refine Calls.kReadQx (readQk z2 HPR.out HK2.out) ?_
              intro W7 _ p2 q2 r2 o2 pp2 qq2 rr2 x2 _
              go_wp2_with (first
                  | (go_at_call 10; (with_reducible refine Calls.cE known04C ?_); intros)
                  | (go_at_call 18; (with_reducible refine Calls.cS isSameC ?_))
                  | (go_at_call 20; (with_reducible refine Calls.cE sameP0 ?_); intros)
                  | (go_at_call 15; (with_reducible refine Calls.cE (same04C (by omega) rfl rfl) ?_); intros))
              go_ret
              exact E.fin rfl
        · have HK2 := Lib.hid r2
          clear r1 r2
          with_reducible refine Calls.kErr (pp_03 hne hne2 (by omega) hp1 hp2 hp3 HK1.out HK2.out) ?_
          intro W5 _ b5 t5 _ _
          go_wp2_with fail
          go_loop [10, 11] (fun cv iv => ∃ j : Nat, j ≤ s.size ∧ iv = .int .i64 (j : Int) ∧ cv = .int .i64 (cmJ s.data.toList j)) (fun _ iv => s.size - (intOf iv).toNat)
          case atStart => exact ⟨0, Nat.zero_le _, rfl, by rw [cmJ_zero]⟩
          case round =>
            obtain ⟨j, hj, rfl, rfl⟩ := hrel
            by_cases h0 : j < s.size
            · have hix := ix_str s j h0
              have hlt : (j : Int) < (s.size : Int) := by omega
              have hw : IntKind.i64.wrap ((j : Int) + 1) = (j : Int) + 1 := by simp [IntKind.wrap, IntKind.signed, IntKind.bits]; omega
              by_cases hb : byteAt s j = 44
              · have hb2 : (((byteAt s j).toNat : Int) == 44) = true := by rw [hb]; rfl
                by_cases hc : cmJ s.data.toList j < 0
                · have HST := Lib.hid (cmJ_hit h0 hb hc)
                  clear hb
                  go_wp2
                  go_round
                  case rel => exact ⟨j + 1, by omega, by simp, by rw [HST.out]⟩
                  case measure => simp [intOf]; omega
                · have hc2 : 0 ≤ cmJ s.data.toList j := by omega
                  have HST := Lib.hid (cmJ_miss h0 (.inr hc2))
                  clear hb hc
                  go_wp2
                  go_round
                  case rel => exact ⟨j + 1, by omega, by simp, by rw [HST.out]⟩
                  case measure => simp [intOf]; omega
              · have hb2 : (((byteAt s j).toNat : Int) == 44) = false := by
                  rw [beq_eq_false_iff_ne]
                  intro h
                  exact hb (UInt8.toNat_inj.1 (by show _ = 44; omega))
                have HST := Lib.hid (cmJ_miss h0 (.inl hb))
                clear hb
                go_wp2
                go_round
                case rel => exact ⟨j + 1, by omega, by simp, by rw [HST.out]⟩
                case measure => simp [intOf]; omega
            · obtain rfl : j = s.size := by omega
              obtain ⟨C, hC⟩ : ∃ C, cmJ s.data.toList s.size = C := ⟨_, rfl⟩
              rw [hC]
              have HG := okF_iff.1 hok
              rw [hC] at HG
              obtain ⟨t1, t2, t3, t4⟩ := HG
              obtain ⟨c, rfl⟩ : ∃ c : Nat, C = (c : Int) := ⟨C.toNat, by omega⟩
              obtain ⟨u1, u2, hPL, hPR⟩ := okF_parts hok hC
              have t1' : (3 : Int) ≤ (s.size : Int) := by omega
              have t1b : ((s.size : Int) < 3) ↔ False := ⟨fun h => by omega, False.elim⟩
              have hs0 : 0 < s.size := by omega
              have t2' : (((s[0]'hs0).toNat : Int)) = 40 := by rw [byteAt_eq, t2]; rfl
              obtain ⟨n, hn⟩ : ∃ n, n = s.size - 1 := ⟨_, rfl⟩
              have hw : IntKind.i64.wrap ((s.size : Int) - 1) = (n : Int) := by simp [IntKind.wrap, IntKind.signed, IntKind.bits]; omega
              have hix1 := ix_str s n (by omega)
              have t3' : ((byteAt s n).toNat : Int) = 41 := by rw [hn, t3]; rfl
              have t4' : ((c : Int) < 1) ↔ False := ⟨fun h => by omega, False.elim⟩
              have v1 : (1 : Int) ≤ (c : Int) := by omega
              have v2 : (c : Int) ≤ (s.size : Int) := by omega
              have v3 : IntKind.i64.wrap ((c : Int) + 1) = (c : Int) + 1 := by simp [IntKind.wrap, IntKind.signed, IntKind.bits]; omega
              have v4 : (c : Int) + 1 ≤ (n : Int) := by omega
              have v5 : (n : Int) ≤ (s.size : Int) := by omega
              have v6 : (0 : Int) ≤ (c : Int) + 1 := by omega
              have HPL := Lib.hid hPL
              have HPR : Hid ((s.extract (c + 1) n).data.toList = comR (inT s.data.toList)) := by show _ = _; rw [hn]; exact hPR
              have z1 : (s.extract 1 c).size ≤ 4000 := by rw [ByteArray.size_extract]; omega
              have z2 : (s.extract (c + 1) n).size ≤ 4000 := by rw [ByteArray.size_extract]; omega
              clear t1 t2 t3 t4 u1 u2 hPL hPR hn hC hok
              go_wp2_with fail
              with_reducible refine Calls.kReadQ (readQ0 z1 HPL.out HK1.out) ?_
              intro W6 _ p1 q1 r1 o1 pp1 qq1 rr1 _
              go_wp2_with fail
              with_reducible refine Calls.kReadQx (readQk z2 HPR.out HK2.out) ?_
              intro W7 _ p2 q2 r2 o2 pp2 qq2 rr2 x2 _
              go_wp2_with (first
                  | (go_at_call 10; (with_reducible refine Calls.cE known04C ?_); intros)
                  | (go_at_call 18; (with_reducible refine Calls.cS isSameC ?_))
                  | (go_at_call 20; (with_reducible refine Calls.cE sameP0 ?_); intros)
                  | (go_at_call 15; (with_reducible refine Calls.cE (same04C (by omega) rfl rfl) ?_); intros))
              go_ret
              exact E.fin rfl
      · have HK1 := Lib.hid r1
        obtain ⟨k2, hk2⟩ : ∃ k, rKind (comR (inT s.data.toList)) = k := ⟨_, rfl⟩
        have HK2 := Lib.hid hk2
        clear r1 r2 hk2
        with_reducible refine Calls.kErr (pp_1 hne hne2 (by omega) hp1 hp2 hp3 HK1.out) ?_
        intro W5 _ b5 t5 _ _
        go_wp2_with fail
        go_loop [10, 11] (fun cv iv => ∃ j : Nat, j ≤ s.size ∧ iv = .int .i64 (j : Int) ∧ cv = .int .i64 (cmJ s.data.toList j)) (fun _ iv => s.size - (intOf iv).toNat)
        case atStart => exact ⟨0, Nat.zero_le _, rfl, by rw [cmJ_zero]⟩
        case round =>
          obtain ⟨j, hj, rfl, rfl⟩ := hrel
          by_cases h0 : j < s.size
          · have hix := ix_str s j h0
            have hlt : (j : Int) < (s.size : Int) := by omega
            have hw : IntKind.i64.wrap ((j : Int) + 1) = (j : Int) + 1 := by simp [IntKind.wrap, IntKind.signed, IntKind.bits]; omega
            by_cases hb : byteAt s j = 44
            · have hb2 : (((byteAt s j).toNat : Int) == 44) = true := by rw [hb]; rfl
              by_cases hc : cmJ s.data.toList j < 0
              · have HST := Lib.hid (cmJ_hit h0 hb hc)
                clear hb
                go_wp2
                go_round
                case rel => exact ⟨j + 1, by omega, by simp, by rw [HST.out]⟩
                case measure => simp [intOf]; omega
              · have hc2 : 0 ≤ cmJ s.data.toList j := by omega
                have HST := Lib.hid (cmJ_miss h0 (.inr hc2))
                clear hb hc
                go_wp2
                go_round
                case rel => exact ⟨j + 1, by omega, by simp, by rw [HST.out]⟩
                case measure => simp [intOf]; omega
            · have hb2 : (((byteAt s j).toNat : Int) == 44) = false := by
                rw [beq_eq_false_iff_ne]
                intro h
                exact hb (UInt8.toNat_inj.1 (by show _ = 44; omega))
              have HST := Lib.hid (cmJ_miss h0 (.inl hb))
              clear hb
              go_wp2
              go_round
              case rel => exact ⟨j + 1, by omega, by simp, by rw [HST.out]⟩
              case measure => simp [intOf]; omega
          · obtain rfl : j = s.size := by omega
            obtain ⟨C, hC⟩ : ∃ C, cmJ s.data.toList s.size = C := ⟨_, rfl⟩
            rw [hC]
            have HG := okF_iff.1 hok
            rw [hC] at HG
            obtain ⟨t1, t2, t3, t4⟩ := HG
            obtain ⟨c, rfl⟩ : ∃ c : Nat, C = (c : Int) := ⟨C.toNat, by omega⟩
            obtain ⟨u1, u2, hPL, hPR⟩ := okF_parts hok hC
            have t1' : (3 : Int) ≤ (s.size : Int) := by omega
            have t1b : ((s.size : Int) < 3) ↔ False := ⟨fun h => by omega, False.elim⟩
            have hs0 : 0 < s.size := by omega
            have t2' : (((s[0]'hs0).toNat : Int)) = 40 := by rw [byteAt_eq, t2]; rfl
            obtain ⟨n, hn⟩ : ∃ n, n = s.size - 1 := ⟨_, rfl⟩
            have hw : IntKind.i64.wrap ((s.size : Int) - 1) = (n : Int) := by simp [IntKind.wrap, IntKind.signed, IntKind.bits]; omega
            have hix1 := ix_str s n (by omega)
            have t3' : ((byteAt s n).toNat : Int) = 41 := by rw [hn, t3]; rfl
            have t4' : ((c : Int) < 1) ↔ False := ⟨fun h => by omega, False.elim⟩
            have v1 : (1 : Int) ≤ (c : Int) := by omega
            have v2 : (c : Int) ≤ (s.size : Int) := by omega
            have v3 : IntKind.i64.wrap ((c : Int) + 1) = (c : Int) + 1 := by simp [IntKind.wrap, IntKind.signed, IntKind.bits]; omega
            have v4 : (c : Int) + 1 ≤ (n : Int) := by omega
            have v5 : (n : Int) ≤ (s.size : Int) := by omega
            have v6 : (0 : Int) ≤ (c : Int) + 1 := by omega
            have HPL := Lib.hid hPL
            have HPR : Hid ((s.extract (c + 1) n).data.toList = comR (inT s.data.toList)) := by show _ = _; rw [hn]; exact hPR
            have z1 : (s.extract 1 c).size ≤ 4000 := by rw [ByteArray.size_extract]; omega
            have z2 : (s.extract (c + 1) n).size ≤ 4000 := by rw [ByteArray.size_extract]; omega
            clear t1 t2 t3 t4 u1 u2 hPL hPR hn hC hok
            go_wp2_with fail
            with_reducible refine Calls.kReadQx (readQk z1 HPL.out HK1.out) ?_
            intro W6 _ p1 q1 r1 o1 pp1 qq1 rr1 x1 _
            go_wp2_with fail
            with_reducible refine Calls.kReadQx (readQk z2 HPR.out HK2.out) ?_
            intro W7 _ p2 q2 r2 o2 pp2 qq2 rr2 x2 _
            go_wp2_with (first
                | (go_at_call 10; (with_reducible refine Calls.cE known04C ?_); intros)
                | (go_at_call 18; (with_reducible refine Calls.cS isSameC ?_))
                | (go_at_call 20; (with_reducible refine Calls.cE sameP0 ?_); intros)
                | (go_at_call 15; (with_reducible refine Calls.cE (same04C (by omega) rfl rfl) ?_); intros))
            go_ret
            exact E.fin rfl
      · have HK1 := Lib.hid r1
        rcases r2 with r2 | r2 | r2
        · obtain ⟨y2, hy2'⟩ : ∃ y, rVal (comR (inT s.data.toList)) = y := ⟨_, rfl⟩; have HK2 : Hid (rKind (comR (inT s.data.toList)) = 0 ∧ rVal (comR (inT s.data.toList)) = y2) := ⟨r2, hy2'⟩; clear hy2'
          clear r1 r2
          with_reducible refine Calls.kErr (pp_30 hne hne2 (by omega) hp1 hp2 hp3 HK1.out HK2.out) ?_
          intro W5 _ b5 t5 _ _
          go_wp2_with fail
          go_loop [10, 11] (fun cv iv => ∃ j : Nat, j ≤ s.size ∧ iv = .int .i64 (j : Int) ∧ cv = .int .i64 (cmJ s.data.toList j)) (fun _ iv => s.size - (intOf iv).toNat)
          case atStart => exact ⟨0, Nat.zero_le _, rfl, by rw [cmJ_zero]⟩
          case round =>
            obtain ⟨j, hj, rfl, rfl⟩ := hrel
            by_cases h0 : j < s.size
            · have hix := ix_str s j h0
              have hlt : (j : Int) < (s.size : Int) := by omega
              have hw : IntKind.i64.wrap ((j : Int) + 1) = (j : Int) + 1 := by simp [IntKind.wrap, IntKind.signed, IntKind.bits]; omega
              by_cases hb : byteAt s j = 44
              · have hb2 : (((byteAt s j).toNat : Int) == 44) = true := by rw [hb]; rfl
                by_cases hc : cmJ s.data.toList j < 0
                · have HST := Lib.hid (cmJ_hit h0 hb hc)
                  clear hb
                  go_wp2
                  go_round
                  case rel => exact ⟨j + 1, by omega, by simp, by rw [HST.out]⟩
                  case measure => simp [intOf]; omega
                · have hc2 : 0 ≤ cmJ s.data.toList j := by omega
                  have HST := Lib.hid (cmJ_miss h0 (.inr hc2))
                  clear hb hc
                  go_wp2
                  go_round
                  case rel => exact ⟨j + 1, by omega, by simp, by rw [HST.out]⟩
                  case measure => simp [intOf]; omega
              · have hb2 : (((byteAt s j).toNat : Int) == 44) = false := by
                  rw [beq_eq_false_iff_ne]
                  intro h
                  exact hb (UInt8.toNat_inj.1 (by show _ = 44; omega))
                have HST := Lib.hid (cmJ_miss h0 (.inl hb))
                clear hb
                go_wp2
                go_round
                case rel => exact ⟨j + 1, by omega, by simp, by rw [HST.out]⟩
                case measure => simp [intOf]; omega
            · obtain rfl : j = s.size := by omega
              obtain ⟨C, hC⟩ : ∃ C, cmJ s.data.toList s.size = C := ⟨_, rfl⟩
              rw [hC]
              have HG := okF_iff.1 hok
              rw [hC] at HG
              obtain ⟨t1, t2, t3, t4⟩ := HG
              obtain ⟨c, rfl⟩ : ∃ c : Nat, C = (c : Int) := ⟨C.toNat, by omega⟩
              obtain ⟨u1, u2, hPL, hPR⟩ := okF_parts hok hC
              have t1' : (3 : Int) ≤ (s.size : Int) := by omega
              have t1b : ((s.size : Int) < 3) ↔ False := ⟨fun h => by omega, False.elim⟩
              have hs0 : 0 < s.size := by omega
              have t2' : (((s[0]'hs0).toNat : Int)) = 40 := by rw [byteAt_eq, t2]; rfl
              obtain ⟨n, hn⟩ : ∃ n, n = s.size - 1 := ⟨_, rfl⟩
              have hw : IntKind.i64.wrap ((s.size : Int) - 1) = (n : Int) := by simp [IntKind.wrap, IntKind.signed, IntKind.bits]; omega
              have hix1 := ix_str s n (by omega)
              have t3' : ((byteAt s n).toNat : Int) = 41 := by rw [hn, t3]; rfl
              have t4' : ((c : Int) < 1) ↔ False := ⟨fun h => by omega, False.elim⟩
              have v1 : (1 : Int) ≤ (c : Int) := by omega
              have v2 : (c : Int) ≤ (s.size : Int) := by omega
              have v3 : IntKind.i64.wrap ((c : Int) + 1) = (c : Int) + 1 := by simp [IntKind.wrap, IntKind.signed, IntKind.bits]; omega
              have v4 : (c : Int) + 1 ≤ (n : Int) := by omega
              have v5 : (n : Int) ≤ (s.size : Int) := by omega
              have v6 : (0 : Int) ≤ (c : Int) + 1 := by omega
              have HPL := Lib.hid hPL
              have HPR : Hid ((s.extract (c + 1) n).data.toList = comR (inT s.data.toList)) := by show _ = _; rw [hn]; exact hPR
              have z1 : (s.extract 1 c).size ≤ 4000 := by rw [ByteArray.size_extract]; omega
              have z2 : (s.extract (c + 1) n).size ≤ 4000 := by rw [ByteArray.size_extract]; omega
              clear t1 t2 t3 t4 u1 u2 hPL hPR hn hC hok
              go_wp2_with fail
              with_reducible refine Calls.kReadQx (readQk z1 HPL.out HK1.out) ?_
              intro W6 _ p1 q1 r1 o1 pp1 qq1 rr1 x1 _
              go_wp2_with fail
              with_reducible refine Calls.kReadQ (readQ0 z2 HPR.out HK2.out) ?_
              intro W7 _ p2 q2 r2 o2 pp2 qq2 rr2 _
              go_wp2_with (first
                  | (go_at_call 10; (with_reducible refine Calls.cE known04C ?_); intros)
                  | (go_at_call 18; (with_reducible refine Calls.cS isSameC ?_))
                  | (go_at_call 20; (with_reducible refine Calls.cE sameP0 ?_); intros)
                  | (go_at_call 15; (with_reducible refine Calls.cE (same04C (by omega) rfl rfl) ?_); intros))
              go_ret
              exact E.fin rfl
        · have HK2 := Lib.hid r2
          clear r1 r2
          with_reducible refine Calls.kErr (pp_31 hne hne2 (by omega) hp1 hp2 hp3 HK1.out HK2.out) ?_
          intro W5 _ b5 t5 _ _
          go_wp2_with fail
          go_loop [10, 11] (fun cv iv => ∃ j : Nat, j ≤ s.size ∧ iv = .int .i64 (j : Int) ∧ cv = .int .i64 (cmJ s.data.toList j)) (fun _ iv => s.size - (intOf iv).toNat)
          case atStart => exact ⟨0, Nat.zero_le _, rfl, by rw [cmJ_zero]⟩
          case round =>
            obtain ⟨j, hj, rfl, rfl⟩ := hrel
            by_cases h0 : j < s.size
            · have hix := ix_str s j h0
              have hlt : (j : Int) < (s.size : Int) := by omega
              have hw : IntKind.i64.wrap ((j : Int) + 1) = (j : Int) + 1 := by simp [IntKind.wrap, IntKind.signed, IntKind.bits]; omega
              by_cases hb : byteAt s j = 44
              · have hb2 : (((byteAt s j).toNat : Int) == 44) = true := by rw [hb]; rfl
                by_cases hc : cmJ s.data.toList j < 0
                · have HST := Lib.hid (cmJ_hit h0 hb hc)
                  clear hb
                  go_wp2
                  go_round
                  case rel => exact ⟨j + 1, by omega, by simp, by rw [HST.out]⟩
                  case measure => simp [intOf]; omega
                · have hc2 : 0 ≤ cmJ s.data.toList j := by omega
                  have HST := Lib.hid (cmJ_miss h0 (.inr hc2))
                  clear hb hc
                  go_wp2
                  go_round
                  case rel => exact ⟨j + 1, by omega, by simp, by rw [HST.out]⟩
                  case measure => simp [intOf]; omega
              · have hb2 : (((byteAt s j).toNat : Int) == 44) = false := by
                  rw [beq_eq_false_iff_ne]
                  intro h
                  exact hb (UInt8.toNat_inj.1 (by show _ = 44; omega))
                have HST := Lib.hid (cmJ_miss h0 (.inl hb))
                clear hb
                go_wp2
                go_round
                case rel => exact ⟨j + 1, by omega, by simp, by rw [HST.out]⟩
                case measure => simp [intOf]; omega
            · obtain rfl : j = s.size := by omega
              obtain ⟨C, hC⟩ : ∃ C, cmJ s.data.toList s.size = C := ⟨_, rfl⟩
              rw [hC]
              have HG := okF_iff.1 hok
              rw [hC] at HG
              obtain ⟨t1, t2, t3, t4⟩ := HG
              obtain ⟨c, rfl⟩ : ∃ c : Nat, C = (c : Int) := ⟨C.toNat, by omega⟩
              obtain ⟨u1, u2, hPL, hPR⟩ := okF_parts hok hC
              have t1' : (3 : Int) ≤ (s.size : Int) := by omega
              have t1b : ((s.size : Int) < 3) ↔ False := ⟨fun h => by omega, False.elim⟩
              have hs0 : 0 < s.size := by omega
              have t2' : (((s[0]'hs0).toNat : Int)) = 40 := by rw [byteAt_eq, t2]; rfl
              obtain ⟨n, hn⟩ : ∃ n, n = s.size - 1 := ⟨_, rfl⟩
              have hw : IntKind.i64.wrap ((s.size : Int) - 1) = (n : Int) := by simp [IntKind.wrap, IntKind.signed, IntKind.bits]; omega
              have hix1 := ix_str s n (by omega)
              have t3' : ((byteAt s n).toNat : Int) = 41 := by rw [hn, t3]; rfl
              have t4' : ((c : Int) < 1) ↔ False := ⟨fun h => by omega, False.elim⟩
              have v1 : (1 : Int) ≤ (c : Int) := by omega
              have v2 : (c : Int) ≤ (s.size : Int) := by omega
              have v3 : IntKind.i64.wrap ((c : Int) + 1) = (c : Int) + 1 := by simp [IntKind.wrap, IntKind.signed, IntKind.bits]; omega
              have v4 : (c : Int) + 1 ≤ (n : Int) := by omega
              have v5 : (n : Int) ≤ (s.size : Int) := by omega
              have v6 : (0 : Int) ≤ (c : Int) + 1 := by omega
              have HPL := Lib.hid hPL
              have HPR : Hid ((s.extract (c + 1) n).data.toList = comR (inT s.data.toList)) := by show _ = _; rw [hn]; exact hPR
              have z1 : (s.extract 1 c).size ≤ 4000 := by rw [ByteArray.size_extract]; omega
              have z2 : (s.extract (c + 1) n).size ≤ 4000 := by rw [ByteArray.size_extract]; omega
              clear t1 t2 t3 t4 u1 u2 hPL hPR hn hC hok
              go_wp2_with fail
              with_reducible refine Calls.kReadQx (readQk z1 HPL.out HK1.out) ?_
              intro W6 _ p1 q1 r1 o1 pp1 qq1 rr1 x1 _
              go_wp2_with fail
              with_reducible refine Calls.kReadQx (readQk z2 HPR.out HK2.out) ?_
              intro W7 _ p2 q2 r2 o2 pp2 qq2 rr2 x2 _
              go_wp2_with (first
                  | (go_at_call 10; (with_reducible refine Calls.cE known04C ?_); intros)
                  | (go_at_call 18; (with_reducible refine Calls.cS isSameC ?_))
                  | (go_at_call 20; (with_reducible refine Calls.cE sameP0 ?_); intros)
                  | (go_at_call 15; (with_reducible refine Calls.cE (same04C (by omega) rfl rfl) ?_); intros))
              go_ret
              exact E.fin rfl
        · have HK2 := Lib.hid r2
          clear r1 r2
          with_reducible refine Calls.kErr (pp_33 hne hne2 (by omega) hp1 hp2 hp3 HK1.out HK2.out) ?_
          intro W5 _ b5 t5 _ _
          go_wp2_with fail
          go_loop [10, 11] (fun cv iv => ∃ j : Nat, j ≤ s.size ∧ iv = .int .i64 (j : Int) ∧ cv = .int .i64 (cmJ s.data.toList j)) (fun _ iv => s.size - (intOf iv).toNat)
          case atStart => exact ⟨0, Nat.zero_le _, rfl, by rw [cmJ_zero]⟩
          case round =>
            obtain ⟨j, hj, rfl, rfl⟩ := hrel
            by_cases h0 : j < s.size
            · have hix := ix_str s j h0
              have hlt : (j : Int) < (s.size : Int) := by omega
              have hw : IntKind.i64.wrap ((j : Int) + 1) = (j : Int) + 1 := by simp [IntKind.wrap, IntKind.signed, IntKind.bits]; omega
              by_cases hb : byteAt s j = 44
              · have hb2 : (((byteAt s j).toNat : Int) == 44) = true := by rw [hb]; rfl
                by_cases hc : cmJ s.data.toList j < 0
                · have HST := Lib.hid (cmJ_hit h0 hb hc)
                  clear hb
                  go_wp2
                  go_round
                  case rel => exact ⟨j + 1, by omega, by simp, by rw [HST.out]⟩
                  case measure => simp [intOf]; omega
                · have hc2 : 0 ≤ cmJ s.data.toList j := by omega
                  have HST := Lib.hid (cmJ_miss h0 (.inr hc2))
                  clear hb hc
                  go_wp2
                  go_round
                  case rel => exact ⟨j + 1, by omega, by simp, by rw [HST.out]⟩
                  case measure => simp [intOf]; omega
              · have hb2 : (((byteAt s j).toNat : Int) == 44) = false := by
                  rw [beq_eq_false_iff_ne]
                  intro h
                  exact hb (UInt8.toNat_inj.1 (by show _ = 44; omega))
                have HST := Lib.hid (cmJ_miss h0 (.inl hb))
                clear hb
                go_wp2
                go_round
                case rel => exact ⟨j + 1, by omega, by simp, by rw [HST.out]⟩
                case measure => simp [intOf]; omega
            · obtain rfl : j = s.size := by omega
              obtain ⟨C, hC⟩ : ∃ C, cmJ s.data.toList s.size = C := ⟨_, rfl⟩
              rw [hC]
              have HG := okF_iff.1 hok
              rw [hC] at HG
              obtain ⟨t1, t2, t3, t4⟩ := HG
              obtain ⟨c, rfl⟩ : ∃ c : Nat, C = (c : Int) := ⟨C.toNat, by omega⟩
              obtain ⟨u1, u2, hPL, hPR⟩ := okF_parts hok hC
              have t1' : (3 : Int) ≤ (s.size : Int) := by omega
              have t1b : ((s.size : Int) < 3) ↔ False := ⟨fun h => by omega, False.elim⟩
              have hs0 : 0 < s.size := by omega
              have t2' : (((s[0]'hs0).toNat : Int)) = 40 := by rw [byteAt_eq, t2]; rfl
              obtain ⟨n, hn⟩ : ∃ n, n = s.size - 1 := ⟨_, rfl⟩
              have hw : IntKind.i64.wrap ((s.size : Int) - 1) = (n : Int) := by simp [IntKind.wrap, IntKind.signed, IntKind.bits]; omega
              have hix1 := ix_str s n (by omega)
              have t3' : ((byteAt s n).toNat : Int) = 41 := by rw [hn, t3]; rfl
              have t4' : ((c : Int) < 1) ↔ False := ⟨fun h => by omega, False.elim⟩
              have v1 : (1 : Int) ≤ (c : Int) := by omega
              have v2 : (c : Int) ≤ (s.size : Int) := by omega
              have v3 : IntKind.i64.wrap ((c : Int) + 1) = (c : Int) + 1 := by simp [IntKind.wrap, IntKind.signed, IntKind.bits]; omega
              have v4 : (c : Int) + 1 ≤ (n : Int) := by omega
              have v5 : (n : Int) ≤ (s.size : Int) := by omega
              have v6 : (0 : Int) ≤ (c : Int) + 1 := by omega
              have HPL := Lib.hid hPL
              have HPR : Hid ((s.extract (c + 1) n).data.toList = comR (inT s.data.toList)) := by show _ = _; rw [hn]; exact hPR
              have z1 : (s.extract 1 c).size ≤ 4000 := by rw [ByteArray.size_extract]; omega
              have z2 : (s.extract (c + 1) n).size ≤ 4000 := by rw [ByteArray.size_extract]; omega
              clear t1 t2 t3 t4 u1 u2 hPL hPR hn hC hok
              go_wp2_with fail
              with_reducible refine Calls.kReadQx (readQk z1 HPL.out HK1.out) ?_
              intro W6 _ p1 q1 r1 o1 pp1 qq1 rr1 x1 _
              go_wp2_with fail
              with_reducible refine Calls.kReadQx (readQk z2 HPR.out HK2.out) ?_
              intro W7 _ p2 q2 r2 o2 pp2 qq2 rr2 x2 _
              go_wp2_with (first
                  | (go_at_call 10; (with_reducible refine Calls.cE known04C ?_); intros)
                  | (go_at_call 18; (with_reducible refine Calls.cS isSameC ?_))
                  | (go_at_call 20; (with_reducible refine Calls.cE sameP0 ?_); intros)
                  | (go_at_call 15; (with_reducible refine Calls.cE (same04C (by omega) rfl rfl) ?_); intros))
              go_ret
              exact E.fin rfl
  · have h1 : (100 : Int) < (s.size : Int) := by omega
    go_enter Tryz.func3, Tryz.ntmps3
    go_wp2_with (go_at_call 10; (with_reducible refine Calls.cE known04C ?_); intros)
    go_ret
    exact E.fin rfl
end Go.Proofs.YtdlnoeegboapkaaGreatDoor
