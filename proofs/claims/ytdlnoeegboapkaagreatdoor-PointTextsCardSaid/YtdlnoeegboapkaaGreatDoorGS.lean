/-
  Texts of this claim, joined: Pt1, Laid, Pt2.
-/
import Derived.Test.YtdlnoeegboapkaaGreatDoorGN
import Derived.Test.YtdlnoeegboapkaaGreatDoorGR
import Derived.Test.YtdlnoeegboapkaaGreatDoorRows
import Derived.Test.YtdlnoeegboapkaaGreatDoorGO
import Derived.LaidMore
import Derived.Stop.LaidTwo
import Derived.Stop.Joined
/- num.Format, ref04.Text, point.Format; the sanity check of layer 4. printed by a small program (mkpt1.py). -/
namespace Go.Proofs.YtdlnoeegboapkaaGreatDoor
open Go.RowKit
set_option maxRecDepth 100000
set_option maxHeartbeats 40000000
set_option synthInstance.maxSize 100000
set_option synthInstance.maxHeartbeats 1000000
set_option maxRecDepth 100000
set_option maxHeartbeats 40000000
set_option synthInstance.maxSize 100000
set_option synthInstance.maxHeartbeats 1000000
set_option linter.unusedVariables false
set_option linter.unusedSimpArgs false

theorem numFormatC {w : World} {g1 : Bool} {a1 aa1 : Option Addr} {l1 c1 ll1 cc1 : Nat} {x : Rat} {k1 : Nat} [h1 : CQ w (.agg #[.bool g1, .slice a1 l1 c1, .slice aa1 ll1 cc1]) x k1] (b : k1 ≤ 100000 ∧ (dl x.num.natAbs).length ≤ 1000000 ∧ (dl x.den).length ≤ 1000000) :
    Calls Tryz.prog 69 #[.agg #[.bool g1, .slice a1 l1 c1, .slice aa1 ll1 cc1]] w fun e w' => e = .returned (.string (fmtQ x)) ∧ Below w.heap.size w w' := by
  obtain ⟨q1, q2⟩ := h1.len
  have i3 := h1.num
  have i2 : CN w (.slice a1 l1 c1) x.num.natAbs k1 := ⟨(zz_of i3).2⟩
  have i4 := h1.den
  have hg := (zz_of i3).1
  have hsz0 := decStr_size x.num.natAbs
  have hsz1 := decStr_size x.den
  have y1 : (9223372036854775807 < 1 + (decStr x.num.natAbs).size) ↔ False := ⟨fun h => by omega, False.elim⟩
  have y2 : (9223372036854775807 < 1 + (decStr x.den).size) ↔ False := ⟨fun h => by omega, False.elim⟩
  have y3 : (9223372036854775807 < (decStr x.num.natAbs).size + (1 + (decStr x.den).size)) ↔ False := ⟨fun h => by omega, False.elim⟩
  have y4 : (9223372036854775807 < 1 + (decStr x.num.natAbs).size + (1 + (decStr x.den).size)) ↔ False := ⟨fun h => by omega, False.elim⟩
  clear hsz0 hsz1 h1 i3
  by_cases hx : x.num < 0
  · have HD : Hid (decI x.num = ⟨#[45]⟩ ++ decStr x.num.natAbs) := if_pos hx
    obtain rfl : g1 = true := by rw [hg]; simp [hx]
    clear hx hg
    by_cases hd : x.den = 1
    · have HE : Hid (fmtQ x = decI x.num) := if_pos hd
      obtain rfl := q1 hd
      clear hd q1 q2 i4
      go_enter Tryz.func69, Tryz.ntmps69
      go_wp2_with (go_at_call 136; (with_reducible refine Calls.cE (numTextC (by omega)) ?_); intros)
      go_ret
      exact E.fin (by rw [HE.out, HD.out]; rfl)
    · have HE : Hid (fmtQ x = decI x.num ++ (⟨#[47]⟩ ++ decStr x.den)) := if_neg hd
      have p := q2 hd
      have p2 : 0 < (ll1 : Int) := by omega
      rw [if_neg hd] at i4
      clear hd q1 q2
      go_enter Tryz.func69, Tryz.ntmps69
      go_wp2_with (go_at_call 136; (with_reducible refine Calls.cE (numTextC (by omega)) ?_); intros)
      go_ret
      exact E.fin (by rw [HE.out, HD.out]; rfl)
  · have HD : Hid (decI x.num = decStr x.num.natAbs) := if_neg hx
    obtain rfl : g1 = false := by rw [hg]; simp [hx]
    clear hx hg
    by_cases hd : x.den = 1
    · have HE : Hid (fmtQ x = decI x.num) := if_pos hd
      obtain rfl := q1 hd
      clear hd q1 q2 i4
      go_enter Tryz.func69, Tryz.ntmps69
      go_wp2_with (go_at_call 136; (with_reducible refine Calls.cE (numTextC (by omega)) ?_); intros)
      go_ret
      exact E.fin (by rw [HE.out, HD.out]; rfl)
    · have HE : Hid (fmtQ x = decI x.num ++ (⟨#[47]⟩ ++ decStr x.den)) := if_neg hd
      have p := q2 hd
      have p2 : 0 < (ll1 : Int) := by omega
      rw [if_neg hd] at i4
      clear hd q1 q2
      go_enter Tryz.func69, Tryz.ntmps69
      go_wp2_with (go_at_call 136; (with_reducible refine Calls.cE (numTextC (by omega)) ?_); intros)
      go_ret
      exact E.fin (by rw [HE.out, HD.out]; rfl)
theorem numFormatV {w : World} {g1 : Bool} {a1 aa1 : Option Addr} {l1 c1 ll1 cc1 : Nat} {x : Rat} {k1 : Nat} {s : ByteArray} [h1 : CQ w (.agg #[.bool g1, .slice a1 l1 c1, .slice aa1 ll1 cc1]) x k1] (b : k1 ≤ 100000 ∧ (dl x.num.natAbs).length ≤ 1000000 ∧ (dl x.den).length ≤ 1000000) (hs : fmtQ x = s) :
    Calls Tryz.prog 69 #[.agg #[.bool g1, .slice a1 l1 c1, .slice aa1 ll1 cc1]] w fun e w' => e = .returned (.string s) ∧ Below w.heap.size w w' := by
  rw [← hs]; exact numFormatC b
theorem pFormatV {w : World} {g1x g1y : Bool} {a1x aa1x a1y aa1y : Option Addr} {l1x c1x ll1x cc1x l1y c1y ll1y cc1y k1x k1y : Nat} {x y : Rat} [h1x : CW w (.agg #[.bool g1x, .slice a1x l1x c1x, .slice aa1x ll1x cc1x]) x k1x] [h1y : CW w (.agg #[.bool g1y, .slice a1y l1y c1y, .slice aa1y ll1y cc1y]) y k1y] (b : k1x ≤ 100000 ∧ k1y ≤ 100000) {s t : ByteArray} (hx1 : (dl x.num.natAbs).length ≤ 1000000) (hx2 : (dl x.den).length ≤ 1000000) (hy1 : (dl y.num.natAbs).length ≤ 1000000) (hy2 : (dl y.den).length ≤ 1000000) (hsx : fmtQ x = s) (hsy : fmtQ y = t) (hls : s.size ≤ 1000000) (hlt : t.size ≤ 1000000) :
    Calls Tryz.prog 14 #[.agg #[.bool g1x, .slice a1x l1x c1x, .slice aa1x ll1x cc1x, .bool g1y, .slice a1y l1y c1y, .slice aa1y ll1y cc1y]] w (fun e w' => e = .returned (.string (⟨#[40]⟩ ++ s ++ ⟨#[44]⟩ ++ t ++ ⟨#[41]⟩)) ∧ Below w.heap.size w w') := by
  have HSX := Lib.hid hsx
  have HSY := Lib.hid hsy
  clear hsx hsy
  have z1 : (9223372036854775807 < 1 + s.size) ↔ False := ⟨fun h => by omega, False.elim⟩
  have z2 : (9223372036854775807 < 1 + s.size + 1) ↔ False := ⟨fun h => by omega, False.elim⟩
  have z3 : (9223372036854775807 < 1 + s.size + 1 + t.size) ↔ False := ⟨fun h => by omega, False.elim⟩
  have z4 : (9223372036854775807 < 1 + s.size + 1 + t.size + 1) ↔ False := ⟨fun h => by omega, False.elim⟩
  clear hls hlt
  go_enter Tryz.func14, Tryz.ntmps14
  go_wp2_with fail
  refine rgn [] [] fun hHeld => ?_
  refine tk 0 hHeld ?_
  refine tk 1 hHeld ?_
  refine tk 5 hHeld ?_
  refine tk 6 hHeld ?_
  refine st 2 fun K hK => ?_
  go_simp
  (with_reducible refine Calls.cE (ratFormatV (by omega) (by omega) (by omega) HSX) ?_); intros
  refine hd hK ?_
  clear hHeld hK K
  intro hHeld
  refine tk 3 hHeld ?_
  refine tk 4 hHeld ?_
  refine st 7 fun K hK => ?_
  go_simp
  (with_reducible refine Calls.cE (ratFormatV (by omega) (by omega) (by omega) HSY) ?_); intros
  refine hd hK ?_
  clear hHeld hK K
  intro hHeld
  refine tk 8 hHeld ?_
  refine tk 9 hHeld ?_
  refine tk 10 hHeld ?_
  refine dn ?_
  clear hHeld
  go_wp2
  go_ret
  exact E.fin rfl

theorem refTextV {w : World} {g1x g1y : Bool} {a1x aa1x a1y aa1y : Option Addr} {l1x c1x ll1x cc1x l1y c1y ll1y cc1y k1x k1y : Nat} {x y : Rat} [h1x : CQ w (.agg #[.bool g1x, .slice a1x l1x c1x, .slice aa1x ll1x cc1x]) x k1x] [h1y : CQ w (.agg #[.bool g1y, .slice a1y l1y c1y, .slice aa1y ll1y cc1y]) y k1y] (b : k1x ≤ 100000 ∧ k1y ≤ 100000) {s t : ByteArray} (hx1 : (dl x.num.natAbs).length ≤ 1000000) (hx2 : (dl x.den).length ≤ 1000000) (hy1 : (dl y.num.natAbs).length ≤ 1000000) (hy2 : (dl y.den).length ≤ 1000000) (hsx : fmtQ x = s) (hsy : fmtQ y = t) (hls : s.size ≤ 1000000) (hlt : t.size ≤ 1000000) :
    Calls Tryz.prog 17 #[.agg #[.bool g1x, .slice a1x l1x c1x, .slice aa1x ll1x cc1x, .bool g1y, .slice a1y l1y c1y, .slice aa1y ll1y cc1y]] w (fun e w' => e = .returned (.string (⟨#[40]⟩ ++ s ++ ⟨#[44]⟩ ++ t ++ ⟨#[41]⟩)) ∧ Below w.heap.size w w') := by
  have HSX := Lib.hid hsx
  have HSY := Lib.hid hsy
  clear hsx hsy
  have z1 : (9223372036854775807 < 1 + s.size) ↔ False := ⟨fun h => by omega, False.elim⟩
  have z2 : (9223372036854775807 < 1 + s.size + 1) ↔ False := ⟨fun h => by omega, False.elim⟩
  have z3 : (9223372036854775807 < 1 + s.size + 1 + t.size) ↔ False := ⟨fun h => by omega, False.elim⟩
  have z4 : (9223372036854775807 < 1 + s.size + 1 + t.size + 1) ↔ False := ⟨fun h => by omega, False.elim⟩
  clear hls hlt
  go_enter Tryz.func17, Tryz.ntmps17
  go_wp2_with fail
  refine rgn [] [] fun hHeld => ?_
  refine tk 0 hHeld ?_
  refine tk 1 hHeld ?_
  refine tk 5 hHeld ?_
  refine tk 6 hHeld ?_
  refine st 2 fun K hK => ?_
  go_simp
  (with_reducible refine Calls.cE (numFormatV (by omega) HSX.out) ?_); intros
  refine hd hK ?_
  clear hHeld hK K
  intro hHeld
  refine tk 3 hHeld ?_
  refine tk 4 hHeld ?_
  refine st 7 fun K hK => ?_
  go_simp
  (with_reducible refine Calls.cE (numFormatV (by omega) HSY.out) ?_); intros
  refine hd hK ?_
  clear hHeld hK K
  intro hHeld
  refine tk 8 hHeld ?_
  refine tk 9 hHeld ?_
  refine tk 10 hHeld ?_
  refine dn ?_
  clear hHeld
  go_wp2
  go_ret
  exact E.fin rfl

theorem known04C {w : World} : Calls Tryz.prog 10 #[] w fun e w' => e = .returned (.bool true) ∧ Below w.heap.size w w' := by
  have H1 : Hid (orientR ((0 : Int) : Rat) ((0 : Int) : Rat) ((1 : Int) : Rat) ((0 : Int) : Rat) ((0 : Int) : Rat) ((1 : Int) : Rat) = 1) := by show _ = _; decide +kernel
  have H2 : Hid (angleR ((0 : Int) : Rat) ((1 : Int) : Rat) ((-1 : Int) : Rat) ((0 : Int) : Rat) = -1) := by show _ = _; decide +kernel
  have e0 : Hid (((0 : Int) : Rat).den = 1) := rfl
  have e1 : Hid (((1 : Int) : Rat).den = 1) := rfl
  have f0 : (dl ((0 : Int) : Rat).num.natAbs).length ≤ 1000000 := by rw [show ((0 : Int) : Rat).num.natAbs = 0 from rfl, dl_zero]; decide
  have f1 : (dl ((1 : Int) : Rat).num.natAbs).length ≤ 1000000 := by rw [show ((1 : Int) : Rat).num.natAbs = 1 from rfl, show dl 1 = [1] by simp [dl_pos, dl_zero]]; decide
  have g0 : (dl ((0 : Int) : Rat).den).length ≤ 1000000 := by rw [show ((0 : Int) : Rat).den = 1 from rfl, show dl 1 = [1] by simp [dl_pos, dl_zero]]; decide
  have g1 : (dl ((1 : Int) : Rat).den).length ≤ 1000000 := by rw [show ((1 : Int) : Rat).den = 1 from rfl, show dl 1 = [1] by simp [dl_pos, dl_zero]]; decide
  have h0 : Hid (fmtQ ((0 : Int) : Rat) = ⟨#[48]⟩) := by
    show decI 0 = _
    unfold decI decStr decBytes
    rw [show (0 : Int).natAbs = 0 from rfl, dl_zero]; rfl
  have h1 : Hid (fmtQ ((1 : Int) : Rat) = ⟨#[49]⟩) := by
    show decI 1 = _
    unfold decI decStr decBytes
    rw [show (1 : Int).natAbs = 1 from rfl, show dl 1 = [1] by simp [dl_pos, dl_zero]]; rfl
  go_enter Tryz.func10, Tryz.ntmps10
  go_wp2_with (first
    | (go_at_call 57; (with_reducible refine Calls.cPA (fromIntsC (by omega)) ?_); intros))
  go_wp2_with fail
  refine region_cls (by kernel_rfl) [] (fun hHeld => ?_)
  refine wpAnyH_take (i := 2) (v := ?z409) (by simp; rfl) (by kernel_rfl) (by kernel_rfl) (by kernel_rfl) (by exact fun _ _ _ h => h) (Or.inl ⟨by rfl, ?yz409⟩) hHeld ?_
  case yz409 => (intro wx hSw; have hSx := Ex1.mk hSw; go_simp; (try with_reducible rfl))
  try simp only [Act.put, List.setIfInBounds_toArray, List.set_cons_zero, List.set_cons_succ]
  refine wpAnyH_ready (rs := [0]) (by kernel_rfl) (by simp) ?_
  refine AllReadyH.cons (by simp; rfl) (fun K hK => ?_) AllReadyH.nil
  go_simp
  (go_at_call 57; (with_reducible refine Calls.cPA (fromIntsC (by omega)) ?_); intros)
  refine hK.out _ _ inferInstance ?_
  clear hHeld hK K
  intro hHeld
  try simp only [Act.put, List.setIfInBounds_toArray, List.set_cons_zero, List.set_cons_succ]
  refine wpAnyH_ready (rs := [1]) (by kernel_rfl) (by simp) ?_
  refine AllReadyH.cons (by simp; rfl) (fun K hK => ?_) AllReadyH.nil
  go_simp
  (go_at_call 57; (with_reducible refine Calls.cPA (fromIntsC (by omega)) ?_); intros)
  refine hK.out _ _ inferInstance ?_
  clear hHeld hK K
  intro hHeld
  try simp only [Act.put, List.setIfInBounds_toArray, List.set_cons_zero, List.set_cons_succ]
  refine wpAnyH_ready (rs := [3]) (by kernel_rfl) (by simp) ?_
  refine AllReadyH.cons (by simp; rfl) (fun K hK => ?_) AllReadyH.nil
  go_simp
  (go_at_call 58; (with_reducible refine Calls.cE (pOrientV (by omega) H1) ?_); intros)
  refine hK.out _ _ inferInstance ?_
  clear hHeld hK K
  intro hHeld
  try simp only [Act.put, List.setIfInBounds_toArray, List.set_cons_zero, List.set_cons_succ]
  refine wpAnyH_take (i := 4) (v := ?z410) (by simp; rfl) (by kernel_rfl) (by kernel_rfl) (by kernel_rfl) (by exact fun _ _ _ h => h) (Or.inl ⟨by rfl, ?yz410⟩) hHeld ?_
  case yz410 => (intro wx hSw; have hSx := Ex1.mk hSw; go_simp; (try with_reducible rfl))
  try simp only [Act.put, List.setIfInBounds_toArray, List.set_cons_zero, List.set_cons_succ]
  refine wpAnyH_take (i := 5) (v := ?z411) (by simp; rfl) (by kernel_rfl) (by kernel_rfl) (by kernel_rfl) (by exact fun _ _ _ h => h) (Or.inl ⟨by rfl, ?yz411⟩) hHeld ?_
  case yz411 => (intro wx hSw; have hSx := Ex1.mk hSw; go_simp; (try with_reducible rfl))
  try simp only [Act.put, List.setIfInBounds_toArray, List.set_cons_zero, List.set_cons_succ]
  refine wpAnyH_take (i := 6) (v := ?z412) (by simp; rfl) (by kernel_rfl) (by kernel_rfl) (by kernel_rfl) (by exact fun _ _ _ h => h) (Or.inl ⟨by rfl, ?yz412⟩) hHeld ?_
  case yz412 => (intro wx hSw; have hSx := Ex1.mk hSw; go_simp; (try with_reducible rfl))
  try simp only [Act.put, List.setIfInBounds_toArray, List.set_cons_zero, List.set_cons_succ]
  refine wpAnyH_ready (rs := [7]) (by kernel_rfl) (by simp) ?_
  refine AllReadyH.cons (by simp; rfl) (fun K hK => ?_) AllReadyH.nil
  go_simp
  (go_at_call 57; (with_reducible refine Calls.cPA (fromIntsC (by omega)) ?_); intros)
  refine hK.out _ _ inferInstance ?_
  clear hHeld hK K
  intro hHeld
  try simp only [Act.put, List.setIfInBounds_toArray, List.set_cons_zero, List.set_cons_succ]
  refine wpAnyH_ready (rs := [8]) (by kernel_rfl) (by simp) ?_
  refine AllReadyH.cons (by simp; rfl) (fun K hK => ?_) AllReadyH.nil
  go_simp
  (go_at_call 59; (with_reducible refine Calls.cE (pAngleV (by omega) H2) ?_); intros)
  refine hK.out _ _ inferInstance ?_
  clear hHeld hK K
  intro hHeld
  try simp only [Act.put, List.setIfInBounds_toArray, List.set_cons_zero, List.set_cons_succ]
  refine wpAnyH_take (i := 9) (v := ?z413) (by simp; rfl) (by kernel_rfl) (by kernel_rfl) (by kernel_rfl) (by exact fun _ _ _ h => h) (Or.inl ⟨by rfl, ?yz413⟩) hHeld ?_
  case yz413 => (intro wx hSw; have hSx := Ex1.mk hSw; go_simp; (try with_reducible rfl))
  try simp only [Act.put, List.setIfInBounds_toArray, List.set_cons_zero, List.set_cons_succ]
  refine wpAnyH_take (i := 10) (v := ?z414) (by simp; rfl) (by kernel_rfl) (by kernel_rfl) (by kernel_rfl) (by exact fun _ _ _ h => h) (Or.inl ⟨by rfl, ?yz414⟩) hHeld ?_
  case yz414 => (intro wx hSw; have hSx := Ex1.mk hSw; go_simp; (try with_reducible rfl))
  try simp only [Act.put, List.setIfInBounds_toArray, List.set_cons_zero, List.set_cons_succ]
  refine wpAnyH_take (i := 11) (v := ?z415) (by simp; rfl) (by kernel_rfl) (by kernel_rfl) (by kernel_rfl) (by exact fun _ _ _ h => h) (Or.inl ⟨by rfl, ?yz415⟩) hHeld ?_
  case yz415 => (intro wx hSw; have hSx := Ex1.mk hSw; go_simp; (try with_reducible rfl))
  try simp only [Act.put, List.setIfInBounds_toArray, List.set_cons_zero, List.set_cons_succ]
  refine wpAnyH_take (i := 12) (v := ?z416) (by simp; rfl) (by kernel_rfl) (by kernel_rfl) (by kernel_rfl) (by exact fun _ _ _ h => h) (Or.inl ⟨by rfl, ?yz416⟩) hHeld ?_
  case yz416 => (intro wx hSw; have hSx := Ex1.mk hSw; go_simp; (try with_reducible rfl))
  try simp only [Act.put, List.setIfInBounds_toArray, List.set_cons_zero, List.set_cons_succ]
  refine wpAnyH_ready (rs := [13]) (by kernel_rfl) (by simp) ?_
  refine AllReadyH.cons (by simp; rfl) (fun K hK => ?_) AllReadyH.nil
  go_simp
  (go_at_call 14; (with_reducible refine Calls.cE (pFormatV (by omega) f0 g0 f1 g1 h0.out h1.out (by decide) (by decide)) ?_); intros)
  refine hK.out _ _ inferInstance ?_
  clear hHeld hK K
  intro hHeld
  try simp only [Act.put, List.setIfInBounds_toArray, List.set_cons_zero, List.set_cons_succ]
  refine wpAnyH_take (i := 14) (v := ?z417) (by simp; rfl) (by kernel_rfl) (by kernel_rfl) (by kernel_rfl) (by exact fun _ _ _ h => h) (Or.inl ⟨by rfl, ?yz417⟩) hHeld ?_
  case yz417 => (intro wx hSw; have hSx := Ex1.mk hSw; go_simp; (try with_reducible rfl))
  try simp only [Act.put, List.setIfInBounds_toArray, List.set_cons_zero, List.set_cons_succ]
  refine wpAnyH_take (i := 15) (v := ?z418) (by simp; rfl) (by kernel_rfl) (by kernel_rfl) (by kernel_rfl) (by exact fun _ _ _ h => h) (Or.inl ⟨by rfl, ?yz418⟩) hHeld ?_
  case yz418 => (intro wx hSw; have hSx := Ex1.mk hSw; go_simp; (try with_reducible rfl))
  try simp only [Act.put, List.setIfInBounds_toArray, List.set_cons_zero, List.set_cons_succ]
  refine wpAnyH_take (i := 16) (v := ?z419) (by simp; rfl) (by kernel_rfl) (by kernel_rfl) (by kernel_rfl) (by exact fun _ _ _ h => h) (Or.inl ⟨by rfl, ?yz419⟩) hHeld ?_
  case yz419 => (intro wx hSw; have hSx := Ex1.mk hSw; go_simp; (try with_reducible rfl))
  try simp only [Act.put, List.setIfInBounds_toArray, List.set_cons_zero, List.set_cons_succ]
  refine wpAnyH_done (by kernel_rfl) ?_ _
  clear hHeld
  go_wp2
  go_ret
  exact E.fin (congrArg Value.bool (by decide +kernel))

end Go.Proofs.YtdlnoeegboapkaaGreatDoor

/- What the condition of the rows of layer 3 gives the walks: the three sentinels, each in its variable, and that two of them are different. -/
namespace Go.Proofs.YtdlnoeegboapkaaGreatDoor
open Go Go.RowKit

theorem Tryz.gS : Tryz.prog.globalNamed "bspregion/api.ErrSyntax" = some 0 := by kernel_rfl
theorem Tryz.gL : Tryz.prog.globalNamed "bspregion/api.ErrLimit" = some 2 := by kernel_rfl
theorem Tryz.gR : Tryz.prog.globalNamed "bspregion/api.ErrRange" = some 1 := by kernel_rfl
theorem Tryz.gSt : (Tryz.prog.globals[0]?).map (·.type) = some 36 := by kernel_rfl
theorem Tryz.gLt : (Tryz.prog.globals[2]?).map (·.type) = some 36 := by kernel_rfl
theorem Tryz.gRt : (Tryz.prog.globals[1]?).map (·.type) = some 36 := by kernel_rfl
theorem Tryz.cellsEs : Tryz.prog.cellsOf 388 = 1 := by kernel_rfl
theorem Tryz.cellsStr : Tryz.prog.cellsOf 9 = 1 := by kernel_rfl
theorem Tryz.star : "*" ++ "errors.errorString" = "*errors.errorString" := by decide
theorem Tryz.rowEs (u : TypeId) (h : Tryz.prog.typeName? 3 u = some "*errors.errorString") : u = 365 :=
  typeName_ptr_named (nm := "errors.errorString") (by rw [Tryz.star]; kernel_rfl) (by kernel_rfl) (by decide) u (by rw [Tryz.star]; exact h)
theorem snt_of_var {W : World} {n : String} {g : Nat} {a : Addr} (hg : Tryz.prog.globalNamed n = some g) (hv : W.var? Tryz.prog n = some #[.iface 365 (.pointer (some a))]) (hr : ∃ c t, W.heap[a.block]? = some (.cells c t (0, 0))) : Snt W g a W :=
  Snt.mk1 (by simpa using World.var?_cell hg hv 0) hr
/-- The list of the rows of layers 3 and 4. -/
def laid3 : List (String × DataW Unit) := [("bspregion/api.ErrSyntax", Rows.laid_bspregion_api_ErrSyntax), ("bspregion/api.ErrLimit", Rows.laid_bspregion_api_ErrLimit), ("bspregion/api.ErrRange", Rows.laid_bspregion_api_ErrRange)]
theorem sents3 {W : World} (hL : laidMetH Tryz.prog laid3 W) : ∃ a0 a1 a2, Snt W 0 a0 W ∧ Snt W 2 a1 W ∧ Snt W 1 a2 W ∧ a1 ≠ a0 := by
  rw [MakeChecks.laidMetH_plain _ _ _ (by kernel_rfl)] at hL
  obtain ⟨a0, a1, s0, s1, c0, c1, t0, t1, hv0, hv1, _, _, _, _, _, _, hne, hb0, hb1⟩ := laid_sentinels2 hL Tryz.gS Tryz.gSt Tryz.gL Tryz.gLt Tryz.underlying36 Tryz.rowEs Tryz.underlying365 Tryz.underlying388 rfl rfl Tryz.underlying9 Tryz.cellsEs Tryz.cellsStr
  obtain ⟨b0, b1, s0', s1', c0', c1', t0', t1', hv0', hv1', _, _, _, _, _, _, _, _, hb1'⟩ := laid_sentinels2 hL.tail Tryz.gL Tryz.gLt Tryz.gR Tryz.gRt Tryz.underlying36 Tryz.rowEs Tryz.underlying365 Tryz.underlying388 rfl rfl Tryz.underlying9 Tryz.cellsEs Tryz.cellsStr
  exact ⟨a0, a1, b1, snt_of_var Tryz.gS hv0 ⟨_, _, hb0⟩, snt_of_var Tryz.gL hv1 ⟨_, _, hb1⟩, snt_of_var Tryz.gR hv1' ⟨_, _, hb1'⟩, fun e => hne e.symm⟩
end Go.Proofs.YtdlnoeegboapkaaGreatDoor

/- What rational.Parse returns, by its kind; point.Parse. printed by a small program (mkpt2.py). -/
namespace Go.Proofs.YtdlnoeegboapkaaGreatDoor
open Go.RowKit
set_option maxRecDepth 100000
set_option maxHeartbeats 40000000
set_option synthInstance.maxSize 100000
set_option synthInstance.maxHeartbeats 1000000
set_option linter.unusedVariables false
set_option linter.unusedSimpArgs false

theorem sents3b {W : World} (hL : laidMetH Tryz.prog laid3 W) : ∃ a0 a1 a2, Snt W 0 a0 W ∧ Snt W 2 a1 W ∧ Snt W 1 a2 W ∧ a1 ≠ a0 ∧ a2 ≠ a0 := by
  obtain ⟨a0, a1, a2, h0, h1, h2, hne⟩ := sents3 hL
  rw [MakeChecks.laidMetH_plain _ _ _ (by kernel_rfl)] at hL
  obtain ⟨ps, hv, hnd, hrows⟩ := hL
  obtain ⟨g, t, cs, fu, p, q, e1, e2, e3, e4, hr, rfl⟩ := hv
  obtain ⟨g', t', cs', fu', p', q', f1, f2, f3, f4, hr', rfl⟩ := hr
  have hF : laidMet Tryz.prog [("bspregion/api.ErrSyntax", Rows.laid_bspregion_api_ErrSyntax), ("bspregion/api.ErrRange", Rows.laid_bspregion_api_ErrRange)] W :=
    ⟨_, ⟨g, t, cs, fu, p, q', e1, e2, e3, e4, hr', rfl⟩, hnd.sublist (List.Sublist.append (List.Sublist.refl _) (List.sublist_append_right _ _)), fun b off hm => hrows b off (by
      rcases List.mem_append.1 hm with h | h
      · exact List.mem_append_left _ h
      · exact List.mem_append_right _ (List.mem_append_right _ h))⟩
  obtain ⟨b0, b2, s0, s1, c0, c1, u0, u1, hv0, hv1, _, _, _, _, _, _, hd, hb0, hb1⟩ := laid_sentinels2 hF Tryz.gS Tryz.gSt Tryz.gR Tryz.gRt Tryz.underlying36 Tryz.rowEs Tryz.underlying365 Tryz.underlying388 rfl rfl Tryz.underlying9 Tryz.cellsEs Tryz.cellsStr
  have k0 := snt_of_var Tryz.gS hv0 ⟨_, _, hb0⟩
  have k2 := snt_of_var Tryz.gR hv1 ⟨_, _, hb1⟩
  have e0 : b0 = a0 := by have := k0.cell.symm.trans h0.cell; simpa using this
  have e2 : b2 = a2 := by have := k2.cell.symm.trans h2.cell; simpa using this
  rw [e0, e2] at hd
  exact ⟨a0, a1, a2, h0, h1, h2, hne, fun e => hd e.symm⟩
def RP (w : World) (l : List UInt8) (a0 a1 a2 : Addr) (e : Ending) (w' : World) : Prop :=
  (rKind l = 1 ∧ ErrRet w (.agg #[.bool false, .slice none 0 0, .slice none 0 0]) a0 e w') ∨ (rKind l = 2 ∧ ErrRet w (.agg #[.bool false, .slice none 0 0, .slice none 0 0]) a1 e w') ∨ (rKind l = 3 ∧ ErrRet w (.agg #[.bool false, .slice none 0 0, .slice none 0 0]) a2 e w') ∨ (rKind l = 0 ∧ RatRet w (rVal l) 5000 e w')
theorem rparse_any {w w1 w2 w3 : World} (s : ByteArray) {a0 a1 a2 : Addr} [h0 : Snt w 0 a0 w1] [h1 : Snt w 2 a1 w2] [h2 : Snt w 1 a2 w3] (hne : a1 ≠ a0) (hsz : s.size ≤ 1000000) : Calls Tryz.prog 67 #[.string s] w (RP w s.data.toList a0 a1 a2) := by
  have hv0 : hasSlash s.data.toList = false → rVal s.data.toList = mkRat (iVal (cutL s.data.toList)) 1 := fun h => by unfold rVal; rw [h]; rfl
  have hv1 : hasSlash s.data.toList = true → rVal s.data.toList = mkRat (iVal (cutL s.data.toList)) (bval (cutR s.data.toList)) := fun h => by unfold rVal; rw [h]; rfl
  cases hh : hasSlash s.data.toList with
  | false =>
    rcases pKind_cases (iDig (cutL s.data.toList)) with he | he | he
    · exact (rparse_1n s hne hsz hh he).mono fun e w' h => .inl ⟨by simp [rKind, rKindF, hh, he], h⟩
    · exact (rparse_2n s hne hsz hh he).mono fun e w' h => .inr (.inl ⟨by simp [rKind, rKindF, hh, he], h⟩)
    · exact (rparse_0n s hne hsz hh ⟨he, rfl⟩).mono fun e w' h => .inr (.inr (.inr ⟨by simp [rKind, rKindF, hh, he], by rw [hv0 hh]; exact h⟩))
  | true =>
    rcases pKind_cases (iDig (cutL s.data.toList)) with he | he | he <;> rcases pKind_cases (cutR s.data.toList) with hf | hf | hf
    · exact (rparse_11 s hne hsz hh he hf).mono fun e w' h => .inl ⟨by simp [rKind, rKindF, hh, he, hf], h⟩
    · exact (rparse_12 s hne hsz hh he hf).mono fun e w' h => .inl ⟨by simp [rKind, rKindF, hh, he, hf], h⟩
    · exact (rparse_10 s hne hsz hh he ⟨hf, rfl⟩).mono fun e w' h => .inl ⟨by simp [rKind, rKindF, hh, he, hf], h⟩
    · exact (rparse_21 s hne hsz hh he hf).mono fun e w' h => .inl ⟨by simp [rKind, rKindF, hh, he, hf], h⟩
    · exact (rparse_22 s hne hsz hh he hf).mono fun e w' h => .inr (.inl ⟨by simp [rKind, rKindF, hh, he, hf], h⟩)
    · exact (rparse_20 s hne hsz hh he ⟨hf, rfl⟩).mono fun e w' h => .inr (.inl ⟨by simp [rKind, rKindF, hh, he, hf], h⟩)
    · exact (rparse_01 s hne hsz hh ⟨he, rfl⟩ hf).mono fun e w' h => .inl ⟨by simp [rKind, rKindF, hh, he, hf], h⟩
    · exact (rparse_02 s hne hsz hh ⟨he, rfl⟩ hf).mono fun e w' h => .inr (.inl ⟨by simp [rKind, rKindF, hh, he, hf], h⟩)
    · by_cases hd : bval (cutR s.data.toList) = 0
      · exact (rparse_00z s hne hsz hh ⟨he, rfl⟩ ⟨hf, rfl⟩ hd).mono fun e w' h => .inr (.inr (.inl ⟨by simp [rKind, rKindF, hh, he, hf, hd], h⟩))
      · exact (rparse_00p s hne hsz hh ⟨he, rfl⟩ ⟨hf, rfl⟩ hd).mono fun e w' h => .inr (.inr (.inr ⟨by simp [rKind, rKindF, hh, he, hf, hd], by rw [hv1 hh]; exact h⟩))
theorem rpK1 {w w1 w2 w3 : World} {s : ByteArray} {l : List UInt8} {a0 a1 a2 : Addr} [h0 : Snt w 0 a0 w1] [h1 : Snt w 2 a1 w2] [h2 : Snt w 1 a2 w3] (hne : a1 ≠ a0) (hsz : s.size ≤ 1000000) (hl : s.data.toList = l) (hk : rKind l = 1) : Calls Tryz.prog 67 #[.string s] w (ErrRet w (.agg #[.bool false, .slice none 0 0, .slice none 0 0]) a0) := by
  subst hl
  refine (rparse_any s hne hsz).mono ?_
  rintro e w' (⟨k, h⟩ | ⟨k, h⟩ | ⟨k, h⟩ | ⟨k, h⟩)
  · exact h
  all_goals omega
theorem rpK3 {w w1 w2 w3 : World} {s : ByteArray} {l : List UInt8} {a0 a1 a2 : Addr} [h0 : Snt w 0 a0 w1] [h1 : Snt w 2 a1 w2] [h2 : Snt w 1 a2 w3] (hne : a1 ≠ a0) (hsz : s.size ≤ 1000000) (hl : s.data.toList = l) (hk : rKind l = 3) : Calls Tryz.prog 67 #[.string s] w (ErrRet w (.agg #[.bool false, .slice none 0 0, .slice none 0 0]) a2) := by
  subst hl
  refine (rparse_any s hne hsz).mono ?_
  rintro e w' (⟨k, h⟩ | ⟨k, h⟩ | ⟨k, h⟩ | ⟨k, h⟩)
  · omega
  · omega
  · exact h
  · omega
theorem rpK0 {w w1 w2 w3 : World} {s : ByteArray} {l : List UInt8} {x : Rat} {a0 a1 a2 : Addr} [h0 : Snt w 0 a0 w1] [h1 : Snt w 2 a1 w2] [h2 : Snt w 1 a2 w3] (hne : a1 ≠ a0) (hsz : s.size ≤ 1000000) (hl : s.data.toList = l) (hk : rKind l = 0 ∧ rVal l = x) : Calls Tryz.prog 67 #[.string s] w (RatRet w x 5000) := by
  subst hl
  refine (rparse_any s hne hsz).mono ?_
  rintro e w' (⟨k, h⟩ | ⟨k, h⟩ | ⟨k, h⟩ | ⟨k, h⟩)
  · omega
  · omega
  · omega
  · rw [← hk.2]; exact h
def AnyRet (w : World) (e : Ending) (w' : World) : Prop := ∃ g a l c aa ll cc er, e = .returned (.tuple #[.agg #[.bool g, .slice a l c, .slice aa ll cc], er]) ∧ Below w.heap.size w w'
theorem Calls.kAny {P : Program} {f : FuncId} {args : Array Value} {w : World} {K : Ending → World → Prop} (h : Calls P f args w (AnyRet w))
    (hK : ∀ w' [Kp1 w w'] g a l c aa ll cc er, K (.returned (.tuple #[.agg #[.bool g, .slice a l c, .slice aa ll cc], er])) w') : Calls P f args w K := by
  refine h.mono ?_
  rintro e w' ⟨g, a, l, c, aa, ll, cc, er, rfl, hb⟩
  exact @hK w' ⟨hb⟩ g a l c aa ll cc er
theorem rpAny {w w1 w2 w3 : World} {s : ByteArray} {a0 a1 a2 : Addr} [h0 : Snt w 0 a0 w1] [h1 : Snt w 2 a1 w2] [h2 : Snt w 1 a2 w3] (hne : a1 ≠ a0) (hsz : s.size ≤ 1000000) : Calls Tryz.prog 67 #[.string s] w (AnyRet w) := by
  refine (rparse_any s hne hsz).mono ?_
  rintro e w' (⟨k, b, t, rfl, _, _, h⟩ | ⟨k, b, t, rfl, _, _, h⟩ | ⟨k, b, t, rfl, _, _, h⟩ | ⟨k, g, a, l, c, aa, ll, cc, rfl, _, h⟩)
  all_goals exact ⟨_, _, _, _, _, _, _, _, rfl, h⟩
end Go.Proofs.YtdlnoeegboapkaaGreatDoor
