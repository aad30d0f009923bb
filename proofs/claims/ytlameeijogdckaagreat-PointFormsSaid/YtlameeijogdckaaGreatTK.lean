/-
  Texts of this claim, joined: Txt, Kn4.
-/
import Derived.Test.YtlameeijogdckaaGreatGeo
import Derived.Test.YtlameeijogdckaaGreatFmt
/- Texts of integers and of points with integer coordinates; the sanity check of layer 4. printed by a small program (mktxt.py). -/
namespace Go.Proofs.YtlameeijogdckaaGreat
open Go.RowKit

set_option maxRecDepth 100000 in
set_option maxHeartbeats 4000000 in
set_option synthInstance.maxSize 100000 in
set_option synthInstance.maxHeartbeats 1000000 in
theorem rWholeC {w : World} {n1 : Int} {d1 : Int} {p1 : Option Addr} {x : Rat} {k1 : Nat} [h1 : CF w (.agg #[.int .i64 n1, .int .i64 d1, .pointer p1]) x k1] (b : k1 ≤ 900000) :
    Calls Tryz.prog 225 #[.agg #[.int .i64 n1, .int .i64 d1, .pointer p1]] w (fun e w' => e = .returned (.bool (decide (x.den = 1))) ∧ Below w.heap.size w w') := by
  by_cases hx : x.den = 1
  · have HE : Hid (decide (x.den = 1) = true) := by show _ = _; simp [hx]
    rcases CF.cases h1 with ⟨rfl, en1, ed1, bn1, bm1, bd1, be1, bk1⟩ | ⟨rfl, rfl, hq1, q1, G1, A1, L1, C1, AA1, LL1, CC1, rfl, hB1, hZ1, hN1⟩
    · have e0 : (d1 == 0) = true := by rw [show d1 = 0 by omega]; rfl
      clear en1 ed1 hx
      go_enter Tryz.func225, Tryz.ntmps225
      go_wp2_with (first
    | (go_at_call 201; (with_reducible refine Calls.cS (bitsC (by omega)) ?_); intros))
      go_ret
      exact E.fin (by rw [HE.out]; rfl)
    · have e0 : (((nbits x.den : Nat) : Int) == 1) = true := by
        rw [hx]; decide +kernel
      clear hx
      go_enter Tryz.func225, Tryz.ntmps225
      go_wp2_with (first
    | (go_at_call 201; (with_reducible refine Calls.cS (bitsC (by omega)) ?_); intros))
      go_ret
      exact E.fin (by rw [HE.out]; rfl)
  · have HE : Hid (decide (x.den = 1) = false) := by show _ = _; simp [hx]
    rcases CF.cases h1 with ⟨rfl, en1, ed1, bn1, bm1, bd1, be1, bk1⟩ | ⟨rfl, rfl, hq1, q1, G1, A1, L1, C1, AA1, LL1, CC1, rfl, hB1, hZ1, hN1⟩
    · have e0 : (d1 == 0) = false := by rw [beq_eq_false_iff_ne]; omega
      clear en1 ed1 hx
      go_enter Tryz.func225, Tryz.ntmps225
      go_wp2_with (first
    | (go_at_call 201; (with_reducible refine Calls.cS (bitsC (by omega)) ?_); intros))
      go_ret
      exact E.fin (by rw [HE.out]; rfl)
    · have e0 : (((nbits x.den : Nat) : Int) == 1) = false := by
        rw [beq_eq_false_iff_ne]; have := @nbits1 x.den; have := den_pos' x; have := @nbits0 x.den; omega
      clear hx
      go_enter Tryz.func225, Tryz.ntmps225
      go_wp2_with (first
    | (go_at_call 201; (with_reducible refine Calls.cS (bitsC (by omega)) ?_); intros))
      go_ret
      exact E.fin (by rw [HE.out]; rfl)

set_option maxRecDepth 100000 in
set_option maxHeartbeats 4000000 in
set_option synthInstance.maxSize 100000 in
set_option synthInstance.maxHeartbeats 1000000 in
theorem rString1C {w : World} {s : ByteArray} {n1 : Int} {d1 : Int} {p1 : Option Addr} {x : Rat} {k1 : Nat} [h1 : CF w (.agg #[.int .i64 n1, .int .i64 d1, .pointer p1]) x k1] (b : k1 ≤ 900000) (hd : x.den = 1) (hl : (dl x.num.natAbs).length ≤ 100000000) (hs : decI x.num = s) :
    Calls Tryz.prog 199 #[.agg #[.int .i64 n1, .int .i64 d1, .pointer p1]] w (fun e w' => e = .returned (.string s) ∧ Below w.heap.size w w') := by
  have e0 : decide (x.den = 1) = true := by simp [hd]
  clear hd
  go_enter Tryz.func199, Tryz.ntmps199
  go_wp2_with (first
    | (go_at_call 192; (with_reducible refine Calls.cZ (rNumC (by omega)) ?_); intros)
    | (go_at_call 224; (with_reducible refine Calls.cE (intFormatC (by omega)) ?_); intros)
    | (go_at_call 225; (with_reducible refine Calls.cE (rWholeC (by omega)) ?_); intros))
  go_ret
  exact E.fin rfl

set_option maxRecDepth 100000 in
set_option maxHeartbeats 4000000 in
set_option synthInstance.maxSize 100000 in
set_option synthInstance.maxHeartbeats 1000000 in
theorem ratFormat1C {w : World} {s : ByteArray} {g1 : Bool} {a1 : Option Addr} {l1 : Nat} {c1 : Nat} {aa1 : Option Addr} {ll1 : Nat} {cc1 : Nat} {x : Rat} {k1 : Nat} [h1 : CW w (.agg #[.bool g1, .slice a1 l1 c1, .slice aa1 ll1 cc1]) x k1] (b : k1 ≤ 700000) (hd : x.den = 1) (hl : (dl x.num.natAbs).length ≤ 100000000) (hs : decI x.num = s) :
    Calls Tryz.prog 169 #[.agg #[.bool g1, .slice a1 l1 c1, .slice aa1 ll1 cc1]] w (fun e w' => e = .returned (.string s) ∧ Below w.heap.size w w') := by
  have HD := Lib.hid hd
  have HS := Lib.hid hs
  clear hd hs
  go_enter Tryz.func169, Tryz.ntmps169
  go_wp2_with (first
    | (go_at_call 113; (with_reducible refine Calls.cF (ofC (by omega)) ?_); intros)
    | (go_at_call 199; (with_reducible refine Calls.cE (rString1C (by omega) HD.out hl HS.out) ?_); intros))
  go_ret
  exact E.fin rfl

set_option maxRecDepth 100000 in
set_option maxHeartbeats 4000000 in
set_option synthInstance.maxSize 100000 in
set_option synthInstance.maxHeartbeats 1000000 in
theorem pFormat1C {w : World} {s t : ByteArray} {g1x : Bool} {a1x : Option Addr} {l1x : Nat} {c1x : Nat} {aa1x : Option Addr} {ll1x : Nat} {cc1x : Nat} {g1y : Bool} {a1y : Option Addr} {l1y : Nat} {c1y : Nat} {aa1y : Option Addr} {ll1y : Nat} {cc1y : Nat} {x y : Rat} {k1x k1y : Nat} [h1x : CW w (.agg #[.bool g1x, .slice a1x l1x c1x, .slice aa1x ll1x cc1x]) x k1x] [h1y : CW w (.agg #[.bool g1y, .slice a1y l1y c1y, .slice aa1y ll1y cc1y]) y k1y] (b : k1x ≤ 700000 ∧ k1y ≤ 700000) (hdx : x.den = 1) (hlx : (dl x.num.natAbs).length ≤ 100000000) (hsx : decI x.num = s) (hdy : y.den = 1) (hly : (dl y.num.natAbs).length ≤ 100000000) (hsy : decI y.num = t) (hls : s.size ≤ 1000) (hlt : t.size ≤ 1000) :
    Calls Tryz.prog 88 #[.agg #[.bool g1x, .slice a1x l1x c1x, .slice aa1x ll1x cc1x, .bool g1y, .slice a1y l1y c1y, .slice aa1y ll1y cc1y]] w (fun e w' => e = .returned (.string (⟨#[40]⟩ ++ s ++ ⟨#[44]⟩ ++ t ++ ⟨#[41]⟩)) ∧ Below w.heap.size w w') := by
  have HDX := Lib.hid hdx
  have HSX := Lib.hid hsx
  have HDY := Lib.hid hdy
  have HSY := Lib.hid hsy
  clear hdx hsx hdy hsy
  have z1 : (9223372036854775807 < 1 + s.size) ↔ False := ⟨fun h => by omega, False.elim⟩
  have z2 : (9223372036854775807 < 1 + s.size + 1) ↔ False := ⟨fun h => by omega, False.elim⟩
  have z3 : (9223372036854775807 < 1 + s.size + 1 + t.size) ↔ False := ⟨fun h => by omega, False.elim⟩
  have z4 : (9223372036854775807 < 1 + s.size + 1 + t.size + 1) ↔ False := ⟨fun h => by omega, False.elim⟩
  clear hls hlt
  go_enter Tryz.func88, Tryz.ntmps88
  go_wp2_with fail
  refine region_cls (by kernel_rfl) [] (fun hHeld => ?_)
  refine wpAnyH_take (i := 0) (v := ?z83) (by simp; rfl) (by kernel_rfl) (by kernel_rfl) (by kernel_rfl) (by exact fun _ _ _ h => h) (Or.inl ⟨by rfl, ?yz83⟩) hHeld ?_
  case yz83 => (intro wx hSw; have hSx := Ex1.mk hSw; go_simp; (try with_reducible rfl))
  try simp only [Act.put, List.setIfInBounds_toArray, List.set_cons_zero, List.set_cons_succ]
  refine wpAnyH_take (i := 1) (v := ?z84) (by simp; rfl) (by kernel_rfl) (by kernel_rfl) (by kernel_rfl) (by exact fun _ _ _ h => h) (Or.inl ⟨by rfl, ?yz84⟩) hHeld ?_
  case yz84 => (intro wx hSw; have hSx := Ex1.mk hSw; go_simp; (try with_reducible rfl))
  try simp only [Act.put, List.setIfInBounds_toArray, List.set_cons_zero, List.set_cons_succ]
  refine wpAnyH_take (i := 5) (v := ?z85) (by simp; rfl) (by kernel_rfl) (by kernel_rfl) (by kernel_rfl) (by exact fun _ _ _ h => h) (Or.inl ⟨by rfl, ?yz85⟩) hHeld ?_
  case yz85 => (intro wx hSw; have hSx := Ex1.mk hSw; go_simp; (try with_reducible rfl))
  try simp only [Act.put, List.setIfInBounds_toArray, List.set_cons_zero, List.set_cons_succ]
  refine wpAnyH_take (i := 6) (v := ?z86) (by simp; rfl) (by kernel_rfl) (by kernel_rfl) (by kernel_rfl) (by exact fun _ _ _ h => h) (Or.inl ⟨by rfl, ?yz86⟩) hHeld ?_
  case yz86 => (intro wx hSw; have hSx := Ex1.mk hSw; go_simp; (try with_reducible rfl))
  try simp only [Act.put, List.setIfInBounds_toArray, List.set_cons_zero, List.set_cons_succ]
  refine wpAnyH_ready (rs := [2]) (by kernel_rfl) (by simp) ?_
  refine AllReadyH.cons (by simp; rfl) (fun K hK => ?_) AllReadyH.nil
  go_simp
  (go_at_call 169; (with_reducible refine Calls.cE (ratFormat1C (by omega) HDX.out hlx HSX.out) ?_); intros)
  refine hK.out _ _ inferInstance ?_
  clear hHeld hK K
  intro hHeld
  try simp only [Act.put, List.setIfInBounds_toArray, List.set_cons_zero, List.set_cons_succ]
  refine wpAnyH_take (i := 3) (v := ?z87) (by simp; rfl) (by kernel_rfl) (by kernel_rfl) (by kernel_rfl) (by exact fun _ _ _ h => h) (Or.inl ⟨by rfl, ?yz87⟩) hHeld ?_
  case yz87 => (intro wx hSw; have hSx := Ex1.mk hSw; go_simp; (try with_reducible rfl))
  try simp only [Act.put, List.setIfInBounds_toArray, List.set_cons_zero, List.set_cons_succ]
  refine wpAnyH_take (i := 4) (v := ?z88) (by simp; rfl) (by kernel_rfl) (by kernel_rfl) (by kernel_rfl) (by exact fun _ _ _ h => h) (Or.inl ⟨by rfl, ?yz88⟩) hHeld ?_
  case yz88 => (intro wx hSw; have hSx := Ex1.mk hSw; go_simp; (try with_reducible rfl))
  try simp only [Act.put, List.setIfInBounds_toArray, List.set_cons_zero, List.set_cons_succ]
  refine wpAnyH_ready (rs := [7]) (by kernel_rfl) (by simp) ?_
  refine AllReadyH.cons (by simp; rfl) (fun K hK => ?_) AllReadyH.nil
  go_simp
  (go_at_call 169; (with_reducible refine Calls.cE (ratFormat1C (by omega) HDY.out hly HSY.out) ?_); intros)
  refine hK.out _ _ inferInstance ?_
  clear hHeld hK K
  intro hHeld
  try simp only [Act.put, List.setIfInBounds_toArray, List.set_cons_zero, List.set_cons_succ]
  refine wpAnyH_take (i := 8) (v := ?z89) (by simp; rfl) (by kernel_rfl) (by kernel_rfl) (by kernel_rfl) (by exact fun _ _ _ h => h) (Or.inl ⟨by rfl, ?yz89⟩) hHeld ?_
  case yz89 => (intro wx hSw; have hSx := Ex1.mk hSw; go_simp; (try with_reducible rfl))
  try simp only [Act.put, List.setIfInBounds_toArray, List.set_cons_zero, List.set_cons_succ]
  refine wpAnyH_take (i := 9) (v := ?z90) (by simp; rfl) (by kernel_rfl) (by kernel_rfl) (by kernel_rfl) (by exact fun _ _ _ h => h) (Or.inl ⟨by rfl, ?yz90⟩) hHeld ?_
  case yz90 => (intro wx hSw; have hSx := Ex1.mk hSw; go_simp; (try with_reducible rfl))
  try simp only [Act.put, List.setIfInBounds_toArray, List.set_cons_zero, List.set_cons_succ]
  refine wpAnyH_take (i := 10) (v := ?z91) (by simp; rfl) (by kernel_rfl) (by kernel_rfl) (by kernel_rfl) (by exact fun _ _ _ h => h) (Or.inl ⟨by rfl, ?yz91⟩) hHeld ?_
  case yz91 => (intro wx hSw; have hSx := Ex1.mk hSw; go_simp; (try with_reducible rfl))
  try simp only [Act.put, List.setIfInBounds_toArray, List.set_cons_zero, List.set_cons_succ]
  refine wpAnyH_done (by kernel_rfl) ?_ _
  clear hHeld
  go_wp2
  go_ret
  exact E.fin rfl

end Go.Proofs.YtlameeijogdckaaGreat

/- The sanity check of the laws of layer 4. printed by a small program (mklaw4c.py). -/
namespace Go.Proofs.YtlameeijogdckaaGreat
open Go.RowKit

set_option linter.unusedSimpArgs false
set_option maxRecDepth 100000 in
set_option maxHeartbeats 4000000 in
set_option synthInstance.maxSize 100000 in
set_option synthInstance.maxHeartbeats 1000000 in
theorem known04C {w : World} : Calls Tryz.prog 13 #[] w fun e w' => e = .returned (.bool true) ∧ Below w.heap.size w w' := by
  have H1 : Hid (orientR ((0 : Int) : Rat) ((0 : Int) : Rat) ((1 : Int) : Rat) ((0 : Int) : Rat) ((0 : Int) : Rat) ((1 : Int) : Rat) = 1) := by show _ = _; decide +kernel
  have H2 : Hid (angleR ((0 : Int) : Rat) ((1 : Int) : Rat) ((-1 : Int) : Rat) ((0 : Int) : Rat) = -1) := by show _ = _; decide +kernel
  have e0 : Hid (((0 : Int) : Rat).den = 1) := rfl
  have e1 : Hid (((1 : Int) : Rat).den = 1) := rfl
  have f0 : (dl ((0 : Int) : Rat).num.natAbs).length ≤ 100000000 := by rw [show ((0 : Int) : Rat).num.natAbs = 0 from rfl, dl_zero]; decide
  have f1 : (dl ((1 : Int) : Rat).num.natAbs).length ≤ 100000000 := by rw [show ((1 : Int) : Rat).num.natAbs = 1 from rfl, show dl 1 = [1] by simp [dl_pos, dl_zero]]; decide
  have h0 : Hid (decI ((0 : Int) : Rat).num = ⟨#[48]⟩) := by
    show decI 0 = _
    unfold decI decStr decBytes
    rw [show (0 : Int).natAbs = 0 from rfl, dl_zero]; rfl
  have h1 : Hid (decI ((1 : Int) : Rat).num = ⟨#[49]⟩) := by
    show decI 1 = _
    unfold decI decStr decBytes
    rw [show (1 : Int).natAbs = 1 from rfl, show dl 1 = [1] by simp [dl_pos, dl_zero]]; rfl
  go_enter Tryz.func13, Tryz.ntmps13
  go_wp2_with (first
    | (go_at_call 21; (with_reducible refine Calls.cPA (fromIntsC (by omega)) ?_); intros))
  go_wp2_with fail
  refine region_cls (by kernel_rfl) [] (fun hHeld => ?_)
  refine wpAnyH_take (i := 2) (v := ?z409) (by simp; rfl) (by kernel_rfl) (by kernel_rfl) (by kernel_rfl) (by exact fun _ _ _ h => h) (Or.inl ⟨by rfl, ?yz409⟩) hHeld ?_
  case yz409 => (intro wx hSw; have hSx := Ex1.mk hSw; go_simp; (try with_reducible rfl))
  try simp only [Act.put, List.setIfInBounds_toArray, List.set_cons_zero, List.set_cons_succ]
  refine wpAnyH_ready (rs := [0]) (by kernel_rfl) (by simp) ?_
  refine AllReadyH.cons (by simp; rfl) (fun K hK => ?_) AllReadyH.nil
  go_simp
  (go_at_call 21; (with_reducible refine Calls.cPA (fromIntsC (by omega)) ?_); intros)
  refine hK.out _ _ inferInstance ?_
  clear hHeld hK K
  intro hHeld
  try simp only [Act.put, List.setIfInBounds_toArray, List.set_cons_zero, List.set_cons_succ]
  refine wpAnyH_ready (rs := [1]) (by kernel_rfl) (by simp) ?_
  refine AllReadyH.cons (by simp; rfl) (fun K hK => ?_) AllReadyH.nil
  go_simp
  (go_at_call 21; (with_reducible refine Calls.cPA (fromIntsC (by omega)) ?_); intros)
  refine hK.out _ _ inferInstance ?_
  clear hHeld hK K
  intro hHeld
  try simp only [Act.put, List.setIfInBounds_toArray, List.set_cons_zero, List.set_cons_succ]
  refine wpAnyH_ready (rs := [3]) (by kernel_rfl) (by simp) ?_
  refine AllReadyH.cons (by simp; rfl) (fun K hK => ?_) AllReadyH.nil
  go_simp
  (go_at_call 87; (with_reducible refine Calls.cE (pOrientV (by omega) H1) ?_); intros)
  refine hK.out _ _ inferInstance ?_
  clear hHeld hK K
  intro hHeld
  try simp only [Act.put, List.setIfInBounds_toArray, List.set_cons_zero, List.set_cons_succ]
  refine wpAnyH_take (i := 4) (v := ?z410) (by simp; rfl) (by kernel_rfl) (by kernel_rfl) (by kernel_rfl) (by exact fun _ _ _ h => h) (Or.inl ⟨by rfl, ?yz410⟩) hHeld ?_
  case yz410 => (intro wx hSw; have hSx := Ex1.mk hSw; go_simp; (try with_reducible rfl))
  try simp only [Act.put, List.setIfInBounds_toArray, List.set_cons_zero, List.set_cons_succ]
  refine wpAnyH_take (i := 5) (v := ?z411) (by simp; rfl) (by kernel_rfl) (by kernel_rfl) (by kernel_rfl) (by exact fun _ _ _ h => h) (Or.inl ⟨by rfl, ?yz411⟩) hHeld ?_
  case yz411 => (intro wx hSw; have hSx := Ex1.mk hSw; go_simp; (try with_reducible rfl))
  try simp only [Act.put, List.setIfInBounds_toArray, List.set_cons_zero, List.set_cons_succ]
  refine wpAnyH_take (i := 6) (v := ?z412) (by simp; rfl) (by kernel_rfl) (by kernel_rfl) (by kernel_rfl) (by exact fun _ _ _ h => h) (Or.inl ⟨by rfl, ?yz412⟩) hHeld ?_
  case yz412 => (intro wx hSw; have hSx := Ex1.mk hSw; go_simp; (try with_reducible rfl))
  try simp only [Act.put, List.setIfInBounds_toArray, List.set_cons_zero, List.set_cons_succ]
  refine wpAnyH_ready (rs := [7]) (by kernel_rfl) (by simp) ?_
  refine AllReadyH.cons (by simp; rfl) (fun K hK => ?_) AllReadyH.nil
  go_simp
  (go_at_call 21; (with_reducible refine Calls.cPA (fromIntsC (by omega)) ?_); intros)
  refine hK.out _ _ inferInstance ?_
  clear hHeld hK K
  intro hHeld
  try simp only [Act.put, List.setIfInBounds_toArray, List.set_cons_zero, List.set_cons_succ]
  refine wpAnyH_ready (rs := [8]) (by kernel_rfl) (by simp) ?_
  refine AllReadyH.cons (by simp; rfl) (fun K hK => ?_) AllReadyH.nil
  go_simp
  (go_at_call 36; (with_reducible refine Calls.cE (pAngleV (by omega) H2) ?_); intros)
  refine hK.out _ _ inferInstance ?_
  clear hHeld hK K
  intro hHeld
  try simp only [Act.put, List.setIfInBounds_toArray, List.set_cons_zero, List.set_cons_succ]
  refine wpAnyH_take (i := 9) (v := ?z413) (by simp; rfl) (by kernel_rfl) (by kernel_rfl) (by kernel_rfl) (by exact fun _ _ _ h => h) (Or.inl ⟨by rfl, ?yz413⟩) hHeld ?_
  case yz413 => (intro wx hSw; have hSx := Ex1.mk hSw; go_simp; (try with_reducible rfl))
  try simp only [Act.put, List.setIfInBounds_toArray, List.set_cons_zero, List.set_cons_succ]
  refine wpAnyH_take (i := 10) (v := ?z414) (by simp; rfl) (by kernel_rfl) (by kernel_rfl) (by kernel_rfl) (by exact fun _ _ _ h => h) (Or.inl ⟨by rfl, ?yz414⟩) hHeld ?_
  case yz414 => (intro wx hSw; have hSx := Ex1.mk hSw; go_simp; (try with_reducible rfl))
  try simp only [Act.put, List.setIfInBounds_toArray, List.set_cons_zero, List.set_cons_succ]
  refine wpAnyH_take (i := 11) (v := ?z415) (by simp; rfl) (by kernel_rfl) (by kernel_rfl) (by kernel_rfl) (by exact fun _ _ _ h => h) (Or.inl ⟨by rfl, ?yz415⟩) hHeld ?_
  case yz415 => (intro wx hSw; have hSx := Ex1.mk hSw; go_simp; (try with_reducible rfl))
  try simp only [Act.put, List.setIfInBounds_toArray, List.set_cons_zero, List.set_cons_succ]
  refine wpAnyH_take (i := 12) (v := ?z416) (by simp; rfl) (by kernel_rfl) (by kernel_rfl) (by kernel_rfl) (by exact fun _ _ _ h => h) (Or.inl ⟨by rfl, ?yz416⟩) hHeld ?_
  case yz416 => (intro wx hSw; have hSx := Ex1.mk hSw; go_simp; (try with_reducible rfl))
  try simp only [Act.put, List.setIfInBounds_toArray, List.set_cons_zero, List.set_cons_succ]
  refine wpAnyH_ready (rs := [13]) (by kernel_rfl) (by simp) ?_
  refine AllReadyH.cons (by simp; rfl) (fun K hK => ?_) AllReadyH.nil
  go_simp
  (go_at_call 88; (with_reducible refine Calls.cE (pFormat1C (by omega) e0.out f0 h0.out e1.out f1 h1.out (by decide) (by decide)) ?_); intros)
  refine hK.out _ _ inferInstance ?_
  clear hHeld hK K
  intro hHeld
  try simp only [Act.put, List.setIfInBounds_toArray, List.set_cons_zero, List.set_cons_succ]
  refine wpAnyH_take (i := 14) (v := ?z417) (by simp; rfl) (by kernel_rfl) (by kernel_rfl) (by kernel_rfl) (by exact fun _ _ _ h => h) (Or.inl ⟨by rfl, ?yz417⟩) hHeld ?_
  case yz417 => (intro wx hSw; have hSx := Ex1.mk hSw; go_simp; (try with_reducible rfl))
  try simp only [Act.put, List.setIfInBounds_toArray, List.set_cons_zero, List.set_cons_succ]
  refine wpAnyH_take (i := 15) (v := ?z418) (by simp; rfl) (by kernel_rfl) (by kernel_rfl) (by kernel_rfl) (by exact fun _ _ _ h => h) (Or.inl ⟨by rfl, ?yz418⟩) hHeld ?_
  case yz418 => (intro wx hSw; have hSx := Ex1.mk hSw; go_simp; (try with_reducible rfl))
  try simp only [Act.put, List.setIfInBounds_toArray, List.set_cons_zero, List.set_cons_succ]
  refine wpAnyH_take (i := 16) (v := ?z419) (by simp; rfl) (by kernel_rfl) (by kernel_rfl) (by kernel_rfl) (by exact fun _ _ _ h => h) (Or.inl ⟨by rfl, ?yz419⟩) hHeld ?_
  case yz419 => (intro wx hSw; have hSx := Ex1.mk hSw; go_simp; (try with_reducible rfl))
  try simp only [Act.put, List.setIfInBounds_toArray, List.set_cons_zero, List.set_cons_succ]
  refine wpAnyH_done (by kernel_rfl) ?_ _
  clear hHeld
  go_wp2
  go_ret
  exact E.fin (congrArg Value.bool (by decide +kernel))

end Go.Proofs.YtlameeijogdckaaGreat
