/-
  Texts of this claim, joined: Rg10, Rg19, Rv0, Rv1, Rg21, Rg18.
-/
import Derived.Test.YtdlnoeegboapkaaGreatDoorCP
import Derived.Test.YtdlnoeegboapkaaGreatDoorCQ
import Derived.Shelf.SlicesQ.Reverse
/- The least rotation: package geo and the reference; lists of points compared digit by digit. printed by a small program (mkrg10.py). -/
namespace Go.Proofs.YtdlnoeegboapkaaGreatDoor
open Go.RowKit
set_option maxRecDepth 100000
set_option maxHeartbeats 40000000
set_option synthInstance.maxSize 100000
set_option synthInstance.maxHeartbeats 1000000
set_option linter.unusedVariables false

theorem Sl.slice {W w0 : World} {v : Value} {n : Nat} {xs : List Value} (h : Sl W v n xs w0) : ∃ a c, v = .slice a n c := by
  rcases h.out with ⟨e1, e2⟩ | ⟨g, c, e1, _⟩
  · exact ⟨none, 0, by rw [e1, e2]⟩
  · exact ⟨_, c, e1⟩
theorem Sl.cast2 {W w0 : World} {v : Value} {n n' : Nat} {xs xs' : List Value} (h : Sl W v n xs w0) (e1 : n = n') (e2 : xs = xs') : Sl W v n' xs' W := by subst e1; subst e2; exact h.here
theorem cell_fz0 {W w0 : World} {g : Nat} {V : List FV} [h : At W g (rowF V) w0] (hk : 0 < V.length) : W.cell? ⟨g, 0, none⟩ = some (.int .i64 (fv V 0).nx) := by
  have := at_f h hk (j := 0) (by decide)
  rw [Nat.zero_mul, Nat.zero_add] at this; exact this
theorem cell_fz1 {W w0 : World} {g : Nat} {V : List FV} [h : At W g (rowF V) w0] (hk : 0 < V.length) : W.cell? ⟨g, 1, none⟩ = some (.int .i64 (fv V 0).dx) := by
  have := at_f h hk (j := 1) (by decide)
  rw [Nat.zero_mul, Nat.zero_add] at this; exact this
theorem cell_fz2 {W w0 : World} {g : Nat} {V : List FV} [h : At W g (rowF V) w0] (hk : 0 < V.length) : W.cell? ⟨g, 2, none⟩ = some (.pointer (fv V 0).px) := by
  have := at_f h hk (j := 2) (by decide)
  rw [Nat.zero_mul, Nat.zero_add] at this; exact this
theorem cell_fz3 {W w0 : World} {g : Nat} {V : List FV} [h : At W g (rowF V) w0] (hk : 0 < V.length) : W.cell? ⟨g, 3, none⟩ = some (.int .i64 (fv V 0).ny) := by
  have := at_f h hk (j := 3) (by decide)
  rw [Nat.zero_mul, Nat.zero_add] at this; exact this
theorem cell_fz4 {W w0 : World} {g : Nat} {V : List FV} [h : At W g (rowF V) w0] (hk : 0 < V.length) : W.cell? ⟨g, 4, none⟩ = some (.int .i64 (fv V 0).dy) := by
  have := at_f h hk (j := 4) (by decide)
  rw [Nat.zero_mul, Nat.zero_add] at this; exact this
theorem cell_fz5 {W w0 : World} {g : Nat} {V : List FV} [h : At W g (rowF V) w0] (hk : 0 < V.length) : W.cell? ⟨g, 5, none⟩ = some (.pointer (fv V 0).py) := by
  have := at_f h hk (j := 5) (by decide)
  rw [Nat.zero_mul, Nat.zero_add] at this; exact this
attribute [local go_sem] cell_fz0 cell_fz1 cell_fz2 cell_fz3 cell_fz4 cell_fz5
theorem canonC {w w0 : World} {a : Option Addr} {n c : Nat} {V : List FV} {L : List (Rat × Rat)} {k : Nat} [hs : Sl w (.slice a n c) V.length (rowF V) w0] [hp : PsF w V L k] (b : k ≤ 20000) (hV : 0 < V.length ∧ V.length ≤ 1000) :
    Calls Tryz.prog 85 #[.slice a n c] w (PsFRet w (canonL L) k) := by
  obtain rfl := hs.len
  have hlen := Lib.hid hp.len
  have hcap := hs.capc
  obtain ⟨g, rfl, hA⟩ := hs.form (by omega)
  go_enter Tryz.func85, Tryz.ntmps85
  go_wp2_with fail
  go_loopw [9, 3] (fun x o wr => ∃ (i : Nat) (U : List FV), x = .int .i64 (i : Int) ∧ i ≤ V.length ∧ Sl wr o U.length (rowF U) wr ∧ Hid (U.length = V.length) ∧ PsF wr U (bst L i) k ∧ Kp w wr) (fun x _ _ => V.length - (intOf x).toNat)
  case atStart => exact ⟨0, V, rfl, by omega, hs.here, Lib.hid rfl, hp, inferInstance⟩
  case round =>
    obtain ⟨i, U, rfl, hi, i1, hU, i2, i3⟩ := hrel
    have kw := Kp1.mk i3.out
    obtain ⟨a3, c3, rfl⟩ := i1.slice
    by_cases hlt : i < V.length
    · have hlt' : (i : Int) < V.length := by omega
      have lq : LtN i V.length := ⟨hlt⟩
      have hU0 : 0 < U.length := by rw [hU.out]; exact hV.1
      have hU0' : (0 : Int) < U.length := by omega
      have l0 : LtN 0 U.length := ⟨hU0⟩
      have hUl : U.length ≤ 1000 := by rw [hU.out]; exact hV.2
      have ew : IntKind.i64.wrap ((i : Int) + 1) = (i : Int) + 1 := wr_in (by omega) (by omega)
      obtain ⟨g2, rfl, hA2⟩ := i1.form hU0
      have HL := Lib.hid (show i < L.length by rw [← hlen.out]; exact hlt)
      obtain ⟨v, hv0⟩ : ∃ v, cmpP (pg L i) (pg (bst L i) 0) = v := ⟨_, rfl⟩
      have HV : Hid (cmpP ((pg L i).1, (pg L i).2) ((pg (bst L i) 0).1, (pg (bst L i) 0).2) = v) := Lib.hid hv0
      have HV0 := Lib.hid hv0
      clear hv0
      by_cases hz : v ≤ 0
      · obtain ⟨r, hr0⟩ : ∃ r, cmpLs (rot L i) (bst L i) = r := ⟨_, rfl⟩
        have HR := Lib.hid hr0
        clear hr0
        by_cases hn : r < 0
        · go_wp2_with fail
          refine rgn [] [] fun hHeld => ?_
          refine tk 0 hHeld ?_
          refine tk 1 hHeld ?_
          refine tk 2 hHeld ?_
          refine tk 3 hHeld ?_
          refine tk 4 hHeld ?_
          refine tk 5 hHeld ?_
          refine tk 6 hHeld ?_
          refine st 7 fun K hK => ?_
          go_simp
          (with_reducible refine Calls.cE (ptCmpV (by omega) HV) ?_); intros
          refine hd hK ?_
          clear hHeld hK K
          intro hHeld
          refine tk 8 hHeld ?_
          refine dn ?_
          clear hHeld
          go_wp2_with (first
            | (go_at_call 149; (with_reducible refine Calls.cPsFRet (rotC hlt hV.2) ?_); intro w5 _ a5 c5 V5 is5 ip5; have hV5 : V5.length ≤ 1000 := by rw [ip5.len, rot_len, ← hlen.out]; exact hV.2)
            | (go_at_call 87; (with_reducible refine Calls.cE (ringCmpV (V := V5) (V2 := U) (by omega) ⟨hV5, hUl⟩ HR) ?_); intros))
          go_roundw
          case rel => exact ⟨i + 1, V5, by go_num, by omega, Sl.cast2 inferInstance rfl rfl, Lib.hid (by rw [ip5.len, rot_len, ← hlen.out]), by rw [bst_better (by rw [HR.out]; exact hn)]; infer_instance, inferInstance⟩
          case measure => simp [intOf]; omega
        · have hn2 : 0 ≤ r := by omega
          go_wp2_with fail
          refine rgn [] [] fun hHeld => ?_
          refine tk 0 hHeld ?_
          refine tk 1 hHeld ?_
          refine tk 2 hHeld ?_
          refine tk 3 hHeld ?_
          refine tk 4 hHeld ?_
          refine tk 5 hHeld ?_
          refine tk 6 hHeld ?_
          refine st 7 fun K hK => ?_
          go_simp
          (with_reducible refine Calls.cE (ptCmpV (by omega) HV) ?_); intros
          refine hd hK ?_
          clear hHeld hK K
          intro hHeld
          refine tk 8 hHeld ?_
          refine dn ?_
          clear hHeld
          go_wp2_with (first
            | (go_at_call 149; (with_reducible refine Calls.cPsFRet (rotC hlt hV.2) ?_); intro w5 _ a5 c5 V5 is5 ip5; have hV5 : V5.length ≤ 1000 := by rw [ip5.len, rot_len, ← hlen.out]; exact hV.2)
            | (go_at_call 87; (with_reducible refine Calls.cE (ringCmpV (V := V5) (V2 := U) (by omega) ⟨hV5, hUl⟩ HR) ?_); intros))
          go_roundw
          case rel => exact ⟨i + 1, U, by go_num, by omega, Sl.cast2 inferInstance rfl rfl, hU, by rw [bst_same (by rw [HR.out]; omega)]; infer_instance, inferInstance⟩
          case measure => simp [intOf]; omega
      · have hz2 : 0 < v := by omega
        go_wp2_with fail
        refine rgn [] [] fun hHeld => ?_
        refine tk 0 hHeld ?_
        refine tk 1 hHeld ?_
        refine tk 2 hHeld ?_
        refine tk 3 hHeld ?_
        refine tk 4 hHeld ?_
        refine tk 5 hHeld ?_
        refine tk 6 hHeld ?_
        refine st 7 fun K hK => ?_
        go_simp
        (with_reducible refine Calls.cE (ptCmpV (by omega) HV) ?_); intros
        refine hd hK ?_
        clear hHeld hK K
        intro hHeld
        refine tk 8 hHeld ?_
        refine dn ?_
        clear hHeld
        go_wp2
        go_roundw
        case rel => exact ⟨i + 1, U, by go_num, by omega, Sl.cast2 inferInstance rfl rfl, hU, by rw [bst_skip HL.out (by rw [HV0.out]; exact hz2)]; infer_instance, inferInstance⟩
        case measure => simp [intOf]; omega
    · obtain rfl : i = V.length := by omega
      go_wp2_with fail
      go_ret
      exact PsFRet.fin (V := U) (by rw [canonL, ← hlen.out]) (Nat.le_refl _)
theorem cmpLs_refl (L : List (Rat × Rat)) : cmpLs L L = 0 := by
  induction L with
  | nil => rfl
  | cons p L ih => rw [cmpLs, if_pos (cmpP_zero.2 rfl)]; exact ih
theorem refCanonC {w w0 : World} {a : Option Addr} {n c : Nat} {V : List AV} {L : List (Rat × Rat)} {k : Nat} [hs : Sl w (.slice a n c) V.length (rowA V) w0] [hp : PsQ w V L k] (b : k ≤ 9000) (hV : 0 < V.length ∧ V.length ≤ 1000) :
    Calls Tryz.prog 31 #[.slice a n c] w (PsQRet w (canonL L) k) := by
  obtain rfl := hs.len
  have hlen := Lib.hid hp.len
  have hcap := hs.capc
  obtain ⟨g, rfl, hA⟩ := hs.form (by omega)
  go_enter Tryz.func31, Tryz.ntmps31
  go_wp2_with fail
  go_loopw [9, 3] (fun x o wr => ∃ (i : Nat) (U : List AV), x = .int .i64 (i : Int) ∧ i ≤ V.length ∧ Sl wr o U.length (rowA U) wr ∧ Hid (U.length = V.length) ∧ PsQ wr U (bst L i) k ∧ Kp w wr) (fun x _ _ => V.length - (intOf x).toNat)
  case atStart => exact ⟨0, V, rfl, by omega, hs.here, Lib.hid rfl, hp, inferInstance⟩
  case round =>
    obtain ⟨i, U, rfl, hi, i1, hU, i2, i3⟩ := hrel
    have kw := Kp1.mk i3.out
    obtain ⟨a3, c3, rfl⟩ := i1.slice
    by_cases hlt : i < V.length
    · have hlt' : (i : Int) < V.length := by omega
      have hi2 : (i : Int) ≤ V.length := by omega
      have hci : ¬ (c = i) := by omega
      have hic : i ≤ c := by omega
      have hil : i ≤ V.length := by omega
      have hUl : U.length ≤ 1000 := by rw [hU.out]; exact hV.2
      have ew : IntKind.i64.wrap ((i : Int) + 1) = (i : Int) + 1 := wr_in (by omega) (by omega)
      have HL := Lib.hid (show i < L.length by rw [← hlen.out]; exact hlt)
      obtain ⟨r, hr0⟩ : ∃ r, cmpLs (rot L i) (bst L i) = r := ⟨_, rfl⟩
      have HR := Lib.hid hr0
      clear hr0
      by_cases hn : r < 0
      · by_cases h0 : i = 0
        · exfalso
          subst h0
          have h1 := HR.out
          have h2 : rot L 0 = L := by simp [rot]
          rw [h2, show bst L 0 = L from rfl, cmpLs_refl] at h1
          omega
        · have h0' : ¬ (V.length = i) := by omega
          go_wp2_with fail
          refine rgn [] [] fun hHeld => ?_
          refine tk 1 hHeld ?_
          refine tk 2 hHeld ?_
          refine tk 3 hHeld ?_
          refine tk 5 hHeld ?_
          refine tk 6 hHeld ?_
          refine tk 7 hHeld ?_
          refine st 0 fun K hK => ?_
          go_simp
          refine hd hK ?_
          clear hHeld hK K
          intro hHeld
          refine st 4 fun K hK => ?_
          rw [if_pos (by rfl)]
          refine appO_full (.tmp 12) (.tmp 15) 61 rfl Tryz.underlying61 info_q rfl (by decide) (by decide) inferInstance (n := 0) (xs := []) rfl (.inr ⟨_, rfl, fun j u hu => by simp at hu⟩) rfl (by simp) rfl (l := rowA (V.drop i)) (fun j u hu => by rw [add_off]; exact (inferInstance : At _ g (rowA V) _).out _ _ (rowA_drop V i j u hu)) (by rw [rowA_len, List.length_drop]) (rowA_nd _) (by omega) (by omega) ?_
          intro g4 c4 W4 k4 i4
          simp only [Nat.zero_add, List.nil_append] at i4 ⊢
          refine hd hK ?_
          clear hHeld hK K
          intro hHeld
          refine st 8 fun K hK => ?_
          rw [if_pos (by rfl)]
          refine appO_own (v := .slice (some ⟨g4, 0, none⟩) (V.length - i) c4) (.tmp 16) (.tmp 19) 61 rfl Tryz.underlying61 info_q rfl (by decide) (by decide) (by decide) inferInstance rfl (rowA_nd _) rfl (l := rowA (V.take i)) (fun j u hu => by rw [add_off, Nat.zero_add]; exact (inferInstance : At _ g (rowA V) _).out _ _ (rowA_take V i j u hu)) (by rw [rowA_len, List.length_take, Nat.min_eq_left (by omega)]) (rowA_one _) (rowA_nd _) (by omega) (by omega) ?_
          intro g5 c5 W5 k5 k5n i5
          simp only [Nat.sub_add_cancel (show i ≤ V.length by omega)] at i5 ⊢
          refine hd hK ?_
          clear hHeld hK K
          intro hHeld
          refine tk 9 hHeld ?_
          refine dn ?_
          clear hHeld
          have is5 := Sl.ofRn (h := Rn.cast2 i5 (n' := (V.drop i ++ V.take i).length) (by simp; omega) (xs' := rowA (V.drop i ++ V.take i)) (by simp [rowA_app]))
          have ip5 := PsQ.turn (i := i) (h := (inferInstance : PsQ W5 V L k)) (by omega)
          have hV5 : (V.drop i ++ V.take i).length ≤ 1000 := by simp; omega
          go_wp2_with (first
            | (go_at_call 32; (with_reducible refine Calls.cE (refRingCmpV (V := V.drop i ++ V.take i) (V2 := U) (hs := is5) (by omega) ⟨hV5, hUl⟩ HR) ?_); intros))
          go_roundw
          case rel => exact ⟨i + 1, V.drop i ++ V.take i, by go_num, by omega, Sl.cast2 inferInstance (by first | rfl | (simp; omega)) (by first | rfl | exact (rowA_app _ _).symm), Lib.hid (by simp; omega), by rw [bst_better (by rw [HR.out]; exact hn)]; infer_instance, inferInstance⟩
          case measure => simp [intOf]; omega
      · have hn2 : 0 ≤ r := by omega
        by_cases h0 : i = 0
        · subst h0
          rw [show (((0 : Nat)) : Int) = 0 from rfl] at *
          go_wp2_with fail
          refine rgn [] [] fun hHeld => ?_
          refine tk 1 hHeld ?_
          refine tk 2 hHeld ?_
          refine tk 3 hHeld ?_
          refine tk 5 hHeld ?_
          refine tk 6 hHeld ?_
          refine tk 7 hHeld ?_
          refine st 0 fun K hK => ?_
          go_simp
          refine hd hK ?_
          clear hHeld hK K
          intro hHeld
          refine st 4 fun K hK => ?_
          rw [if_pos (by rfl)]
          refine appO_full (.tmp 12) (.tmp 15) 61 rfl Tryz.underlying61 info_q rfl (by decide) (by decide) inferInstance (n := 0) (xs := []) rfl (.inr ⟨_, rfl, fun j u hu => by simp at hu⟩) rfl (by simp) rfl (l := rowA V) (fun j u hu => by rw [add_off, Nat.zero_add]; exact (inferInstance : At _ g (rowA V) _).out _ _ hu) (rowA_len _) (rowA_nd _) (by omega) (by omega) ?_
          intro g4 c4 W4 k4 i4
          simp only [Nat.zero_add, List.nil_append] at i4 ⊢
          have hc4 := i4.cap.1
          refine hd hK ?_
          clear hHeld hK K
          intro hHeld
          refine st 8 fun K hK => ?_
          rw [if_pos (by rfl)]
          refine appO_none (.tmp 16) (.tmp 19) 61 rfl Tryz.underlying61 info_q rfl hc4 rfl (.inr ⟨_, _, rfl⟩) ?_
          refine hd hK ?_
          clear hHeld hK K
          intro hHeld
          refine tk 9 hHeld ?_
          refine dn ?_
          clear hHeld
          have is5 := Sl.ofRn (h := Rn.cast2 i4 (n' := (V.drop 0 ++ V.take 0).length) (by simp) (xs' := rowA (V.drop 0 ++ V.take 0)) (by simp))
          have ip5 := PsQ.turn (i := 0) (h := (inferInstance : PsQ W4 V L k)) (by omega)
          have hV5 : (V.drop 0 ++ V.take 0).length ≤ 1000 := by simp; omega
          go_wp2_with (first
            | (go_at_call 32; (with_reducible refine Calls.cE (refRingCmpV (V := V.drop 0 ++ V.take 0) (V2 := U) (hs := is5) (by omega) ⟨hV5, hUl⟩ HR) ?_); intros))
          go_roundw
          case rel => exact ⟨0 + 1, U, by go_num, by omega, Sl.cast2 inferInstance rfl rfl, hU, by rw [bst_same (by rw [HR.out]; omega)]; infer_instance, inferInstance⟩
          case measure => simp [intOf]; omega
        · have h0' : ¬ (V.length = i) := by omega
          go_wp2_with fail
          refine rgn [] [] fun hHeld => ?_
          refine tk 1 hHeld ?_
          refine tk 2 hHeld ?_
          refine tk 3 hHeld ?_
          refine tk 5 hHeld ?_
          refine tk 6 hHeld ?_
          refine tk 7 hHeld ?_
          refine st 0 fun K hK => ?_
          go_simp
          refine hd hK ?_
          clear hHeld hK K
          intro hHeld
          refine st 4 fun K hK => ?_
          rw [if_pos (by rfl)]
          refine appO_full (.tmp 12) (.tmp 15) 61 rfl Tryz.underlying61 info_q rfl (by decide) (by decide) inferInstance (n := 0) (xs := []) rfl (.inr ⟨_, rfl, fun j u hu => by simp at hu⟩) rfl (by simp) rfl (l := rowA (V.drop i)) (fun j u hu => by rw [add_off]; exact (inferInstance : At _ g (rowA V) _).out _ _ (rowA_drop V i j u hu)) (by rw [rowA_len, List.length_drop]) (rowA_nd _) (by omega) (by omega) ?_
          intro g4 c4 W4 k4 i4
          simp only [Nat.zero_add, List.nil_append] at i4 ⊢
          refine hd hK ?_
          clear hHeld hK K
          intro hHeld
          refine st 8 fun K hK => ?_
          rw [if_pos (by rfl)]
          refine appO_own (v := .slice (some ⟨g4, 0, none⟩) (V.length - i) c4) (.tmp 16) (.tmp 19) 61 rfl Tryz.underlying61 info_q rfl (by decide) (by decide) (by decide) inferInstance rfl (rowA_nd _) rfl (l := rowA (V.take i)) (fun j u hu => by rw [add_off, Nat.zero_add]; exact (inferInstance : At _ g (rowA V) _).out _ _ (rowA_take V i j u hu)) (by rw [rowA_len, List.length_take, Nat.min_eq_left (by omega)]) (rowA_one _) (rowA_nd _) (by omega) (by omega) ?_
          intro g5 c5 W5 k5 k5n i5
          simp only [Nat.sub_add_cancel (show i ≤ V.length by omega)] at i5 ⊢
          refine hd hK ?_
          clear hHeld hK K
          intro hHeld
          refine tk 9 hHeld ?_
          refine dn ?_
          clear hHeld
          have is5 := Sl.ofRn (h := Rn.cast2 i5 (n' := (V.drop i ++ V.take i).length) (by simp; omega) (xs' := rowA (V.drop i ++ V.take i)) (by simp [rowA_app]))
          have ip5 := PsQ.turn (i := i) (h := (inferInstance : PsQ W5 V L k)) (by omega)
          have hV5 : (V.drop i ++ V.take i).length ≤ 1000 := by simp; omega
          go_wp2_with (first
            | (go_at_call 32; (with_reducible refine Calls.cE (refRingCmpV (V := V.drop i ++ V.take i) (V2 := U) (hs := is5) (by omega) ⟨hV5, hUl⟩ HR) ?_); intros))
          go_roundw
          case rel => exact ⟨i + 1, U, by go_num, by omega, Sl.cast2 inferInstance rfl rfl, hU, by rw [bst_same (by rw [HR.out]; omega)]; infer_instance, inferInstance⟩
          case measure => simp [intOf]; omega
    · obtain rfl : i = V.length := by omega
      go_wp2_with fail
      go_ret
      exact PsQRet.fin (V := U) (by rw [canonL, ← hlen.out]) (Nat.le_refl _)
theorem samePsC {w w0 w1 : World} {a a2 : Option Addr} {n c n2 c2 : Nat} {V V2 : List AV} {L M : List (Rat × Rat)} {k k2 : Nat} [hs : Sl w (.slice a n c) V.length (rowA V) w0] [hp : PsA w V L k] [hs2 : Sl w (.slice a2 n2 c2) V2.length (rowA V2) w1] [hp2 : PsA w V2 M k2] (hLM : L = M) (hV : V.length ≤ 1000000) :
    Calls Tryz.prog 30 #[.slice a n c, .slice a2 n2 c2] w (fun e w' => e = .returned (.bool true) ∧ Below w.heap.size w w') := by
  obtain rfl := hs.len
  obtain rfl := hs2.len
  have hlen : V2.length = V.length := by rw [hp2.len, hp.len, hLM]
  have HLM := Lib.hid hLM
  have hlen2 : ((V.length : Int) != (V2.length : Int)) = false := by rw [hlen]; simp
  have hlen3 : V.length = V2.length := hlen.symm
  have HLEN := Lib.hid hlen
  clear hLM hlen
  go_enter Tryz.func30, Tryz.ntmps30
  go_wp2_with fail
  go_loopw [13] (fun i wr => ∃ q : Nat, i = .int .i64 (q : Int) ∧ q ≤ V.length ∧ Kp w wr) (fun i _ => V.length - (intOf i).toNat)
  case atStart => exact ⟨0, rfl, by omega, inferInstance⟩
  case round =>
    obtain ⟨q, rfl, hq, i1⟩ := hrel
    have kw := Kp1.mk i1.out
    by_cases hlt : q < V.length
    · have hlt' : (q : Int) < V.length := by omega
      have hlt2 : q < V2.length := by rw [HLEN.out]; exact hlt
      have hlt2' : (q : Int) < V2.length := by omega
      have lq : LtN q V.length := ⟨hlt⟩
      have lq2 : LtN q V2.length := ⟨hlt2⟩
      have ew : IntKind.i64.wrap ((q : Int) + 1) = (q : Int) + 1 := wr_in (by omega) (by omega)
      obtain ⟨g, rfl, hA⟩ := hs.form (by omega)
      obtain ⟨g2, rfl, hA2⟩ := hs2.form (by omega)
      clear hlen3 hlen2
      go_wp2_with fail
      refine rgn [] [] fun hHeld => ?_
      refine tk 0 hHeld ?_
      refine tk 1 hHeld ?_
      refine tk 2 hHeld ?_
      refine tk 3 hHeld ?_
      refine tk 4 hHeld ?_
      refine tk 5 hHeld ?_
      refine tk 6 hHeld ?_
      refine tk 7 hHeld ?_
      refine st 8 fun K hK => ?_
      go_simp
      (with_reducible refine Calls.cE (samePC (by rw [HLM.out]) (by rw [HLM.out])) ?_); intros
      refine hd hK ?_
      clear hHeld hK K
      intro hHeld
      refine tk 9 hHeld ?_
      refine dn ?_
      clear hHeld
      go_wp2
      go_roundw
      case rel => exact ⟨q + 1, by go_num, by omega, inferInstance⟩
      case measure => simp [intOf]; omega
    · obtain rfl : q = V.length := by omega
      go_wp2_with fail
      go_ret
      exact E.fin rfl
theorem rCanonC {w w0 : World} {a : Option Addr} {n c : Nat} {V : List AV} {L : List (Rat × Rat)} {k : Nat} [hs : Sl w (.slice a n c) V.length (rowA V) w0] [hp : PsA w V L k] (b : k ≤ 18000) (hV : V.length ≤ 1000) (hR : RingOK L) :
    Calls Tryz.prog 28 #[.slice a n c] w (PsAEr w (canonL L) (k + 2)) := by
  have hpos := hR.pos
  have HR := Lib.hid hR
  clear hR
  go_enter Tryz.func28, Tryz.ntmps28
  go_wp2_with (first
    | (go_at_call 77; (with_reducible refine Calls.cPsFEr (ringOfOk (by omega) (by omega) HR.out) ?_); intro w1 _ a1 c1 V1 _ ip1; have hV1 : V1.length ≤ 1000 := (by rw [ip1.len, ← PsA.len (W := w) (V := V)]; exact hV); have hV2 : 0 < V1.length := (by rw [ip1.len]; exact hpos))
    | (go_at_call 85; (with_reducible refine Calls.cPsFRet (canonC (V := V1) (by omega) ⟨hV2, hV1⟩) ?_); intro w2 _ a2 c2 V2 _ ip2; have hV3 : V2.length ≤ 1000 := (by rw [ip2.len, canonL, bst_len, ← ip1.len]; exact hV1))
    | (go_at_call 86; (with_reducible refine Calls.cPsARet (ringApiC (V := V2) (by omega) (by omega)) ?_); intro w4 _ a4 c4 V4 _ ip4))
  go_ret2
  exact PsAEr.fin (V := V4) rfl (Nat.le_refl _)
theorem rCompareC {w w0 w1 : World} {a a2 : Option Addr} {n c n2 c2 : Nat} {V V2 : List AV} {L M : List (Rat × Rat)} {k k2 : Nat} [hs : Sl w (.slice a n c) V.length (rowA V) w0] [hp : PsA w V L k] [hs2 : Sl w (.slice a2 n2 c2) V2.length (rowA V2) w1] [hp2 : PsA w V2 M k2] {res : Int} (b : k ≤ 18000 ∧ k2 ≤ 18000) (hV : V.length ≤ 1000 ∧ V2.length ≤ 1000) (hR : RingOK L) (hR2 : RingOK M) (hr : Hid (cmpLs L M = res)) :
    Calls Tryz.prog 29 #[.slice a n c, .slice a2 n2 c2] w (fun e w' => e = .returned (.tuple #[.int .i64 res, .nilIface]) ∧ Below w.heap.size w w') := by
  have HR := Lib.hid hR
  have HR2 := Lib.hid hR2
  clear hR hR2
  have hv1 := Lib.hid (show L.length ≤ 1000 by rw [← hp.len]; exact hV.1)
  have hv2 := Lib.hid (show M.length ≤ 1000 by rw [← hp2.len]; exact hV.2)
  go_enter Tryz.func29, Tryz.ntmps29
  go_wp2_with fail
  with_reducible refine Calls.cPsFEr (ringOfOk (V := V) (by omega) (by omega) HR.out) ?_
  intro w3 _ a3 c3 V3 _ ip3
  have hV3 := Lib.hid (show V3.length ≤ 1000 by rw [ip3.len]; exact hv1.out)
  go_wp2_with fail
  with_reducible refine Calls.cPsFEr (ringOfOk (V := V2) (by omega) (by omega) HR2.out) ?_
  intro w4 _ a4 c4 V4 _ ip4
  have hV4 := Lib.hid (show V4.length ≤ 1000 by rw [ip4.len]; exact hv2.out)
  go_wp2_with (first
    | (go_at_call 87; (with_reducible refine Calls.cE (ringCmpV (V := V3) (V2 := V4) (by omega) ⟨hV3.out, hV4.out⟩ hr) ?_); intros))
  go_ret2
  exact ⟨rfl, (inferInstance : Kp w _).out⟩
end Go.Proofs.YtdlnoeegboapkaaGreatDoor

/- slices.Clone and slices.Reverse of a ring; ring.Reverse. printed by a small program (mkrg19.py). -/
namespace Go.Proofs.YtdlnoeegboapkaaGreatDoor
open Go.RowKit
set_option maxRecDepth 100000
set_option maxHeartbeats 40000000
set_option synthInstance.maxSize 100000
set_option synthInstance.maxHeartbeats 1000000
set_option linter.unusedVariables false

/-- A row of one's own as a box. -/
theorem Rn.box {W w0 : World} {g n c sz base : Nat} {e : TypeId} {xs : List Value} (h : Rn W (.slice (some ⟨g, 0, none⟩) n c) e sz n xs base w0) : ∃ Z, Bx W g e (xs ++ Z) ∧ ∀ u ∈ Z, isDigit32 u = false := by
  obtain ⟨t, l, h1, ht, hd⟩ := (h.nd g rfl).out
  rcases h.rw'.out.2 with ⟨e1, _⟩ | ⟨g', c', cur, e1, hb, hc, hn, hm, hs, htk⟩
  · cases e1
  · cases e1
    rw [h1] at hc
    cases hc
    have htk : l.take (n * sz) = xs := htk
    refine ⟨l.drop xs.length, ⟨?_⟩, fun u hu => hd u (List.mem_of_mem_drop hu)⟩
    rw [h1]
    have h2 : xs ++ l.drop xs.length = l := by
      have h3 := h.rw'.out.1
      conv => rhs; rw [← List.take_append_drop xs.length l]
      rw [h3, htk]
    rw [h2]
theorem rowF_set (U : List FV) (Z : List Value) (x : FV) : ∀ p, p < U.length → ((((((rowF U ++ Z).set (p * 6) (.int .i64 x.nx)).set (p * 6 + 1) (.int .i64 x.dx)).set (p * 6 + 2) (.pointer x.px)).set (p * 6 + 3) (.int .i64 x.ny)).set (p * 6 + 4) (.int .i64 x.dy)).set (p * 6 + 5) (.pointer x.py) = rowF (U.set p x) ++ Z := by
  induction U with
  | nil => intro p h; simp at h
  | cons y U ih =>
    intro p h
    have e : ∀ (v : FV) (M : List FV), rowF (v :: M) ++ Z = v.l ++ (rowF M ++ Z) := fun v M => by simp [rowF]
    rw [e]
    cases p with
    | zero => rw [List.set_cons_zero, e]; rfl
    | succ p =>
      rw [List.set_cons_succ, e, ← ih p (by simpa using h)]
      have a : ∀ (l : List Value) (j : Nat) (v : Value), (y.l ++ l).set ((p + 1) * 6 + j) v = y.l ++ l.set (p * 6 + j) v := fun l j v => by
        rw [List.set_append_right _ _ (by rw [FV.len]; omega), FV.len]
        congr 2
        omega
      have a0 : ∀ (l : List Value) (v : Value), (y.l ++ l).set ((p + 1) * 6) v = y.l ++ l.set (p * 6) v := fun l v => a l 0 v
      rw [a0, a, a, a, a, a]
theorem cloneC {w w0 : World} {a : Option Addr} {n c : Nat} {V : List FV} {L : List (Rat × Rat)} {k : Nat} [hs : Sl w (.slice a n c) V.length (rowF V) w0] [hp : PsF w V L k] (hV0 : 0 < V.length) (hV : V.length ≤ 1000000) :
    Calls Tryz.prog 93 #[.slice a n c] w (fun e w' => ∃ g c' Z, e = .returned (.slice (some ⟨g, 0, none⟩) V.length c') ∧ (V.length ≤ c' ∧ c' ≤ maxLen) ∧ w.heap.size ≤ g ∧ Bx w' g 152 (rowF V ++ Z) ∧ (∀ u ∈ Z, isDigit32 u = false) ∧ Below w.heap.size w w') := by
  obtain rfl := hs.len
  have hlen := Lib.hid hp.len
  obtain ⟨g, rfl, hA⟩ := hs.form hV0
  have hnil : (binOp .eql 131 (.slice (some ⟨g, 0, none⟩) V.length c) (.slice none 0 0)).run Tryz.prog w = .ok (.bool false) w := Lib.run_eql_slice_nil w 131 152 _ _ _ 0 0 Tryz.underlying131
  go_enter Tryz.func93, Tryz.ntmps93
  go_wp2_with (at_builtin; refine wpList_plain rfl fun K hKK => ?_; refine appO_full (.tmp 5) (.tmp 6) 131 rfl Tryz.underlying131 info_f rfl (by decide) (by decide) inferInstance (n := 0) (xs := []) rfl (.inr ⟨_, rfl, fun j u hu => by simp at hu⟩) rfl (by simp) rfl (l := rowF V) (fun j u hu => by rw [add_off, Nat.zero_add]; exact (inferInstance : At _ g (rowF V) _).out _ _ hu) (rowF_len _) (rowF_nd _) (by omega) (by omega) ?_; intro g4 c4 W4 k4 i4; simp only [Nat.zero_add, List.nil_append] at i4 ⊢; refine hKK _ _ ?_)
  go_ret
  obtain ⟨Z, hb, hz⟩ := Rn.box i4
  exact ⟨_, _, Z, rfl, i4.cap, by have h5 := (Rn.lo (m := 0) (d := 0) i4).out g4 rfl; rw [World.size_alloc] at h5; omega, hb, hz, (inferInstance : Kp w _).out⟩
end Go.Proofs.YtdlnoeegboapkaaGreatDoor

/- slices.Reverse of a ring, by the shelf: its laying in plain words. -/
namespace Go.Proofs
open Go.Shelf Go.Lib
def Tryz.reversePt_ren : Ren := ⟨fun n => if n = 35 then 94 else n, fun n => if n = 22 then 131 else if n = 23 then 152 else n, fun n => n⟩
theorem Tryz.reversePt : SlLaysE0.n35 Tryz.prog Tryz.reversePt_ren :=
  { mixed := by kernel_rfl
    f35 := ⟨Tryz.f94.name, of_decide_eq_true (by kernel_rfl), Tryz.func94.trans (by kernel_rfl)⟩
    t0 := Tryz.underlying0, a0 := Tryz.isAgg0, z0 := Tryz.sizeOf0, v0 := Tryz.zeroValue0
    t3 := Tryz.underlying3, a3 := Tryz.isAgg3, z3 := Tryz.sizeOf3, v3 := Tryz.zeroValue3
    t4 := Tryz.underlying4, a4 := Tryz.isAgg4, z4 := Tryz.sizeOf4, v4 := Tryz.zeroValue4
    t22 := Tryz.underlying131, a22 := Tryz.isAgg131, z22 := Tryz.sizeOf131, v22 := Tryz.zeroValue131 }
end Go.Proofs

/- slices.Reverse of a ring's points, in this claim's words. -/
namespace Go.Proofs.YtdlnoeegboapkaaGreatDoor
open Go.RowKit Go.Sort
set_option linter.unusedVariables false
set_option linter.unusedSimpArgs false
set_option maxRecDepth 100000

instance : Inhabited FV := ⟨⟨0, 0, none, 0, 0, none⟩⟩
theorem flatK_row (M : List FV) : flatK FV.l 6 M.toArray = (rowF M).toArray := by
  apply Array.ext_getElem?
  intro t
  by_cases h : t < M.length * 6
  · have h1 : t / 6 < M.length := by omega
    have h2 : t % 6 < 6 := Nat.mod_lt _ (by omega)
    have e : t / 6 * 6 + t % 6 = t := by omega
    have h3 := flat_get FV.len M (t / 6) (t % 6) h1 h2
    rw [e] at h3
    have h4 : (rowF M)[t]? = M[t / 6].l[t % 6]? := h3
    have h6 : (rowF M).toArray[t]? = M[t / 6].l[t % 6]? := by rw [← h4]; simp
    rw [h6]
    rw [getElem?_pos (flatK FV.l 6 M.toArray) t (by simpa using h)]
    have h5 := get_flatK FV.l 6 M.toArray t (by simpa using h)
    rw [getElem!_pos _ t (by simpa using h)] at h5
    rw [h5]
    rw [getElem!_pos M.toArray (t / 6) (by simpa using h1)]
    rw [getElem!_pos (FV.l _) (t % 6) (by rw [FV.len]; exact h2)]
    rw [List.getElem?_eq_getElem (by rw [FV.len]; exact h2)]
    simp
  · rw [Array.getElem?_eq_none (by simpa using h), Array.getElem?_eq_none (by simp [rowF_len]; omega)]
theorem row_cells {w : World} {g : Nat} {x : FV} {M : List FV} {Z : List Value} {t : TypeId} (hb : Bx w g t (rowF (x :: M) ++ Z)) : HoldsK FV.l 6 w g 6 M.toArray := by
  unfold HoldsK Holds
  rw [flatK_row]
  intro j hj
  have hj' : j < (rowF M).length := by simpa using hj
  have e : rowF (x :: M) ++ Z = x.l ++ (rowF M ++ Z) := by simp [rowF]
  constructor
  · simp only [World.cell?, hb.out, e]
    rw [getElem!_pos _ j hj]
    simp only [List.getElem?_toArray, id]
    rw [List.getElem?_append_right (by rw [FV.len]; omega), FV.len, show 6 + j - 6 = j by omega, List.getElem?_append_left hj', List.getElem?_eq_getElem hj']
    simp
  · simp [World.frozen?, hb.out]
theorem putCells_row (x : FV) (M N : List FV) (Z : List Value) (h : N.length = M.length) : putCells id 6 (rowF N).toArray (rowF (x :: M) ++ Z).toArray = (rowF (x :: N) ++ Z).toArray := by
  have e : ∀ L : List FV, rowF (x :: L) ++ Z = x.l ++ (rowF L ++ Z) := fun L => by simp [rowF]
  have hn : (rowF N).length = (rowF M).length := by rw [rowF_len, rowF_len, h]
  rw [e, e]
  apply Array.ext_getElem?
  intro k
  simp only [putCells, Array.getElem?_mapIdx, List.getElem?_toArray, List.size_toArray]
  by_cases h1 : k < 6
  · rw [List.getElem?_append_left (l₁ := x.l) (l₂ := rowF M ++ Z) (by rw [FV.len]; exact h1), List.getElem?_append_left (l₁ := x.l) (l₂ := rowF N ++ Z) (by rw [FV.len]; exact h1)]
    simp [show ¬ (6 ≤ k) by omega]
  · rw [List.getElem?_append_right (l₁ := x.l) (l₂ := rowF M ++ Z) (by rw [FV.len]; omega), List.getElem?_append_right (l₁ := x.l) (l₂ := rowF N ++ Z) (by rw [FV.len]; omega), FV.len]
    by_cases h2 : k - 6 < (rowF N).length
    · have h3 : k - 6 < (rowF M).length := by omega
      rw [List.getElem?_append_left (l₁ := rowF M) h3, List.getElem?_append_left (l₁ := rowF N) h2, List.getElem?_eq_getElem h3, List.getElem?_eq_getElem h2, Option.map_some, if_pos (by omega)]
      rw [getElem!_pos _ (k - 6) (by simpa using h2)]
      simp
    · rw [List.getElem?_append_right (l₁ := rowF M) (by omega), List.getElem?_append_right (l₁ := rowF N) (by omega), hn]
      cases Z[k - 6 - (rowF M).length]? with
      | none => rfl
      | some v => rw [Option.map_some, if_neg (by omega)]
theorem sliceRevS {w : World} {g c : Nat} {x : FV} {M : List FV} {Z : List Value} [hb : Bx w g 152 (rowF (x :: M) ++ Z)] (hM : M.length ≤ 1000000) :
    Calls Tryz.prog 94 #[.slice (some ⟨g, 6, none⟩) M.length c] w (fun e w' => e = .returned (.tuple #[]) ∧ Bx w' g 152 (rowF (x :: M.reverse) ++ Z) ∧ w.grownBy w' (some g)) := by
  have aE : ∀ w, (isAgg 152).run Tryz.prog w = .ok true w := fun w => by
    unfold isAgg
    rw [Sem.run_bind, run_underlying Tryz.underlying152 w]
    rfl
  have zE : ∀ w, (Go.sizeOf 152).run Tryz.prog w = .ok 6 w := fun w => by
    have hi : (Tryz.prog.info? 152).map (·.size) = some 6 := by kernel_rfl
    obtain ⟨i0, h0, h1⟩ := Option.map_eq_some_iff.1 hi
    simp [Go.sizeOf, typeInfo, h0, h1]
  have h := AnyQ.slices_Reverse Tryz.reversePt 6 aE zE FV.l FV.len FV.one g 6 c M.toArray w (row_cells hb) (by simp; omega)
  rw [List.size_toArray] at h
  refine h.mono ?_
  rintro e w' ⟨rfl, n, rfl⟩
  refine ⟨rfl, ⟨?_⟩, ?_⟩
  · rw [List.reverse_toArray, putRowK, flatK_row, putRow, mapBlock]
    simp only [Array.getElem?_modify, if_true]
    show (w.heap[g]?).map _ = _
    rw [hb.out, Option.map_some]
    show some (Obj.cells (putCells id 6 (rowF M.reverse).toArray (rowF (x :: M) ++ Z).toArray) _ _) = _
    rw [putCells_row x M M.reverse Z (by simp)]
  · refine ⟨rfl, rfl, rfl, by rw [putRowK, size_putRow]; exact Nat.le_refl _, fun k _ hk => ?_⟩
    rw [putRowK, putRow, mapBlock]
    simp only [Array.getElem?_modify]
    rw [if_neg (fun e => hk (by rw [e]))]
    rfl
end Go.Proofs.YtdlnoeegboapkaaGreatDoor

/- ring.Reverse. printed by a small program (mkrg21.py). -/
namespace Go.Proofs.YtdlnoeegboapkaaGreatDoor
open Go.RowKit
set_option maxRecDepth 100000
set_option maxHeartbeats 40000000
set_option synthInstance.maxSize 100000
set_option synthInstance.maxHeartbeats 1000000
set_option linter.unusedVariables false

theorem PsF.rev {W : World} {x : FV} {M : List FV} {L : List (Rat × Rat)} {k : Nat} (h : PsF W (x :: M) L k) : PsF W (x :: M.reverse) (revL L) k := by
  have hl := h.len
  match L, hl with
  | p :: L, hl =>
    have hl2 : M.length = L.length := by simpa using hl
    refine h.part (by simp [revL, hl2]) (fun i hi => ?_)
    have hi2 : i < M.length + 1 := by simpa using hi
    cases i with
    | zero => exact ⟨0, by simp, rfl, rfl⟩
    | succ i =>
      have h1 : i < M.length := by omega
      refine ⟨M.length - 1 - i + 1, by simp; omega, ?_, ?_⟩
      · rw [fv_get (by simpa using hi), fv_get (by simp; omega)]
        simp only [List.getElem_cons_succ, List.getElem_reverse]
      · rw [pg_get (by simp [revL]; omega), pg_get (by simp; omega)]
        simp only [revL, List.getElem_cons_succ, List.getElem_reverse, ← hl2]
theorem rReverseC {w w0 : World} {a : Option Addr} {n c : Nat} {V : List AV} {L : List (Rat × Rat)} {k : Nat} [hs : Sl w (.slice a n c) V.length (rowA V) w0] [hp : PsA w V L k] (b : k ≤ 18000) (hV : V.length ≤ 1000) (hR : RingOK L) :
    Calls Tryz.prog 35 #[.slice a n c] w (PsAEr w (revL L) (k + 2)) := by
  have hpos := hR.pos
  have HR := Lib.hid hR
  clear hR
  go_enter Tryz.func35, Tryz.ntmps35
  go_wp2_with fail
  with_reducible refine Calls.cPsFEr (ringOfOk (by omega) (by omega) HR.out) ?_
  intro w1 _ a1 c1 V1 _ ip1
  have hV1 : V1.length ≤ 1000 := by rw [ip1.len, ← PsA.len (W := w) (V := V)]; exact hV
  have hV2 : 0 < V1.length := by rw [ip1.len]; exact hpos
  go_wp2_with fail
  refine (cloneC (V := V1) (by omega) (by omega)).mono ?_
  rintro e w2 ⟨g, c2, Z, rfl, hc, hg, hb, hz, hbl⟩
  have k2 : Kp1 w1 w2 := ⟨hbl⟩
  have gw : Ge w g := ⟨Nat.le_trans (inferInstance : Kp w w1).out.size hg⟩
  obtain ⟨x, M, rfl⟩ : ∃ x M, V1 = x :: M := by
    match V1, hV2 with
    | x :: M, _ => exact ⟨x, M, rfl⟩
  have hM : M.length ≤ 1000 := by simp at hV1; omega
  have hc1 : M.length + 1 ≤ c2 := by simpa using hc.1
  have hc2 : c2 ≤ maxLen := hc.2
  simp only [List.length_cons]
  clear hV1 hV2 hc
  have hM1 : 1 ≤ M.length := by
    have h1 := ip1.len
    have h2 := HR.out.edge 0 hpos
    have h3 : L.length = M.length + 1 := by rw [← h1]; simp
    rcases Nat.eq_zero_or_pos M.length with h | h
    · rw [h3, h] at h2; exact absurd rfl h2
    · exact h
  have hc3 : ¬ (c2 = 1) := by omega
  have hc4 : (1 : Int) ≤ M.length + 1 := by omega
  have e1 : M.length + 1 - 1 = M.length := by omega
  go_wp2_with fail
  refine (sliceRevS (x := x) (Z := Z) (by omega)).mono ?_
  rintro e w3 ⟨rfl, hb3, hgb⟩
  have ap : Apn w2 w3 := ⟨⟨_, hgb, fun k hk => by cases hk; exact ⟨_, _, hb.out, inferInstance, fun u hu => by
    rcases List.mem_append.1 hu with h | h
    · exact rowF_nd _ u h
    · exact hz u h⟩⟩⟩
  have ap1 : Ap1 w2 w3 g w2 := ⟨⟨_, hgb, fun k hk => by cases hk; exact ⟨Nat.le_refl _, hb.lt⟩⟩⟩
  have ip2 : PsF w2 (x :: M) L (k + 2) := inferInstance
  have ip3 : PsF w3 (x :: M) L (k + 2) := inferInstance
  have ip4 := ip3.rev
  have sl : Sl w3 (.slice (some ⟨g, 0, none⟩) (M.length + 1) c2) (x :: M.reverse).length (rowF (x :: M.reverse)) w3 := ⟨.inr ⟨g, c2, by simp, by simpa using hc1, fun j u hu => by
    rw [cell_bx, List.getElem?_append_left (List.getElem?_eq_some_iff.1 hu).1]; exact hu⟩, fun g' e => by cases e; exact hb3.lt, fun g' e => by cases e; exact hb3.lt⟩
  go_wp2_with fail
  with_reducible refine Calls.cPsARet (ringApiC (V := x :: M.reverse) (by omega) (by simp; omega)) ?_
  intro w4 _ a4 c4 V4 _ ip5
  go_wp2_with fail
  go_ret2
  exact PsAEr.fin (V := V4) rfl (by omega)
end Go.Proofs.YtdlnoeegboapkaaGreatDoor

/- The reference's reversed polygon. printed by a small program (mkrg18.py). -/
namespace Go.Proofs.YtdlnoeegboapkaaGreatDoor
open Go.RowKit
set_option maxRecDepth 100000
set_option maxHeartbeats 40000000
set_option synthInstance.maxSize 100000
set_option synthInstance.maxHeartbeats 1000000
set_option linter.unusedVariables false

/-- A literal's row is a row of one's own. -/
theorem Rn.lit {W : World} {b n sz base : Nat} {e : TypeId} {l : List Value} [h : Bx W b e l] (hl : l.length = n * sz) (hb : base ≤ b) (hn : n ≤ 1000000) (he : BoxT e) (hd : ∀ u ∈ l, isDigit32 u = false) : Rn W (.slice (some ⟨b, 0, none⟩) n n) e sz n l base W := by
  refine ⟨⟨⟨hl, .inr ⟨b, n, _, rfl, hb, h.out, Nat.le_refl _, ?_, ?_, ?_⟩⟩, fun g eg => ?_, fun g eg => ?_, Nat.le_trans hb (Nat.le_of_lt h.lt)⟩, fun g eg => ?_⟩
  · unfold maxLen; omega
  · simp [hl]
  · simp [← hl]
  · cases eg; exact h.lt
  · cases eg; exact h.lt
  · cases eg; exact ⟨e, l, h.out, he, hd⟩
attribute [local go_sem] cell_az0 cell_az1 cell_az2 cell_az3 cell_az4 cell_az5
def revP (L : List (Rat × Rat)) (q : Nat) : List (Rat × Rat) := ((pg L 0).1, (pg L 0).2) :: (L.drop (q + 1)).reverse
theorem revP_end {L : List (Rat × Rat)} (h : 0 < L.length) : revP L 0 = revL L := by
  match L, h with
  | p :: L, _ => simp [revP, revL, pg]
theorem revP_start {L : List (Rat × Rat)} {q : Nat} (h : L.length ≤ q + 1) : revP L q = [] ++ [((pg L 0).1, (pg L 0).2)] := by
  rw [revP, List.drop_of_length_le h]; rfl
theorem revP_step {L : List (Rat × Rat)} {q : Nat} (h : q + 1 < L.length) : revP L q = revP L (q + 1) ++ [((pg L (q + 1)).1, (pg L (q + 1)).2)] := by
  rw [revP, revP, List.drop_eq_getElem_cons h, List.reverse_cons, pg_get h]; rfl
theorem refReverseC {w w0 : World} {a : Option Addr} {n c : Nat} {V : List AV} {L : List (Rat × Rat)} {k : Nat} [hs : Sl w (.slice a n c) V.length (rowA V) w0] [hp : PsQ w V L k] (hV0 : 0 < V.length) (hV : V.length ≤ 900000) :
    Calls Tryz.prog 42 #[.slice a n c] w (PsQRet w (revL L) k) := by
  obtain rfl := hs.len
  have hlen := Lib.hid hp.len
  obtain ⟨g, rfl, hA⟩ := hs.form hV0
  have hV0' : 0 < (V.length : Int) := by omega
  have l0 : LtN 0 V.length := ⟨hV0⟩
  have e1 : IntKind.i64.wrap ((V.length : Int) - 1) = (V.length : Int) - 1 := wr_in (by omega) (by omega)
  go_enter Tryz.func42, Tryz.ntmps42
  go_wp2_with fail
  go_loopw [4, 3] (fun i o wr => ∃ (q : Nat) (U : List AV), i = .int .i64 (q : Int) ∧ q < V.length ∧ Rn wr o 47 6 U.length (rowA U) w.heap.size wr ∧ Hid (U.length + q = V.length) ∧ PsQ wr U (revP L q) k ∧ Kp w wr) (fun i _ _ => (intOf i).toNat)
  case atStart =>
    refine ⟨V.length - 1, [⟨(av V 0).gx, (av V 0).ax, (av V 0).lx, (av V 0).cx, (av V 0).aax, (av V 0).llx, (av V 0).ccx, (av V 0).gy, (av V 0).ay, (av V 0).ly, (av V 0).cy, (av V 0).aay, (av V 0).lly, (av V 0).ccy⟩], ?_, by omega, ?_, Lib.hid (by simp; omega), ?_, inferInstance⟩
    · go_num
    · exact Rn.lit (n := 1) rfl (Nat.le_refl _) (by omega) inferInstance (rowA_nd [⟨(av V 0).gx, (av V 0).ax, (av V 0).lx, (av V 0).cx, (av V 0).aax, (av V 0).llx, (av V 0).ccx, (av V 0).gy, (av V 0).ay, (av V 0).ly, (av V 0).cy, (av V 0).aay, (av V 0).lly, (av V 0).ccy⟩])
    · rw [revP_start (by have := hlen.out; omega)]
      exact PsQ.add (h := PsQ.nil) (Nat.le_refl _) (Nat.le_refl _)
  case round =>
    obtain ⟨q, U, rfl, hq, i1, hU, i2, i3⟩ := hrel
    have kw := Kp1.mk i3.out
    by_cases hlt : 0 < q
    · have hlt' : 0 < (q : Int) := by omega
      have hq' : (q : Int) < V.length := by omega
      have lq : LtN q V.length := ⟨hq⟩
      have ew : IntKind.i64.wrap ((q : Int) - 1) = (q : Int) - 1 := wr_in (by omega) (by omega)
      go_wp2_with (first
        | (at_builtin; go_loud (refine app_rn1 (v := u3) rfl (.tmp 16) (.tmp 21) 61 rfl Tryz.underlying61 info_q rfl (by decide) (by decide) (by decide) inferInstance rfl (rowA_nd _) rfl (by rfl) ?h1 ?h2 (by first | omega | (have := hU.out; omega)) ?_); (case h1 => exact AV.one ⟨_, _, _, _, _, _, _, _, _, _, _, _, _, _⟩); (case h2 => exact AV.nd ⟨_, _, _, _, _, _, _, _, _, _, _, _, _, _⟩); intro g2 c2 w2 i9 i10 i11))
      go_roundw
      case rel => exact ⟨q - 1, U ++ [⟨(av V q).gx, (av V q).ax, (av V q).lx, (av V q).cx, (av V q).aax, (av V q).llx, (av V q).ccx, (av V q).gy, (av V q).ay, (av V q).ly, (av V q).cy, (av V q).aay, (av V q).lly, (av V q).ccy⟩], by go_num, by omega, Rn.cast2 (inferInstance) (by simp) (by rw [rowA_snoc]; rfl), Lib.hid (by rw [List.length_append]; have := hU.out; simp; omega), by obtain ⟨q, rfl⟩ : ∃ p, q = p + 1 := ⟨q - 1, by omega⟩; rw [Nat.add_sub_cancel, revP_step (by have := hlen.out; omega)]; exact PsQ.add (Nat.le_refl _) (Nat.le_refl _), inferInstance⟩
      case measure => simp [intOf]; omega
    · obtain rfl : q = 0 := by omega
      rw [revP_end (by have := hlen.out; omega)] at i2
      obtain ⟨a3, c3, rfl⟩ := i1.slice
      go_wp2_with fail
      go_ret
      exact PsQRet.fin (V := U) rfl (by omega)
end Go.Proofs.YtdlnoeegboapkaaGreatDoor
