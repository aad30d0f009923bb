/-
  Package frac: contracts of the comparison, the quotient, the greatest common divisor.
  Printed by a small program (mkfrac3.py).
-/
import Derived.Test.YtlameeijogdckaaGreatFrac2
namespace Go.Proofs.YtlameeijogdckaaGreat
open Go.RowKit

theorem rsgn_isgn (x : Rat) : rsgn x = isgn x.num := by
  unfold rsgn isgn
  repeat' split
  all_goals omega
theorem isgn0 {z : Int} : isgn z = 0 ↔ z = 0 := by
  unfold isgn
  repeat' split
  all_goals omega
theorem cmp_same {x y : Rat} (h : x.den = y.den) : isgn (x - y).num = if x.num < y.num then -1 else if x.num = y.num then 0 else 1 := by
  rw [← rsgn_isgn]; exact sub_same_den h
theorem inv_sgn {x : Rat} (h : x ≠ 0) : mkRat (sgn (decide (x.num < 0)) x.den) x.num.natAbs = x⁻¹ := by
  rw [rat_inv_mk x h]
  by_cases hn : x.num < 0 <;> simp [hn, sgn]
theorem Calls.cZn {P : Program} {f : FuncId} {args : Array Value} {w : World} {x : Int} {k : Nat} {K : Ending → World → Prop} (h : Calls P f args w (CZRet w x k))
    (hK : ∀ w' [Kp1 w w'] (g : Bool) (a : Option Addr) (l : Nat) (c : Nat) [CZ w' (.agg #[.bool g, .slice a l c]) x k] [CN w' (.slice a l c) x.natAbs k], K (.returned (.agg #[.bool g, .slice a l c])) w') : Calls P f args w K := by
  refine h.mono ?_
  rintro e w' ⟨g, a, l, c, rfl, hx, hb⟩
  exact @hK w' ⟨hb⟩ g a l c hx ⟨(zz_of hx).2⟩
set_option maxRecDepth 100000 in
set_option maxHeartbeats 4000000 in
set_option synthInstance.maxSize 100000 in
set_option synthInstance.maxHeartbeats 1000000 in
theorem rZeroC {w : World} {n1 : Int} {d1 : Int} {p1 : Option Addr} {x : Rat} {k1 : Nat} [h1 : CF w (.agg #[.int .i64 n1, .int .i64 d1, .pointer p1]) x k1]  :
    Calls Tryz.prog 158 #[.agg #[.int .i64 n1, .int .i64 d1, .pointer p1]] w (fun e w' => e = .returned (.bool (decide (x = 0))) ∧ Below w.heap.size w w') := by
  rcases CF.cases h1 with ⟨rfl, en1, ed1, bn1, bm1, bd1, be1, bk1⟩ | ⟨rfl, rfl, hq1, q1, G1, A1, L1, C1, AA1, LL1, CC1, rfl, hB1, hZ1, hN1⟩
  · by_cases hx : x = 0
    · have HE : Hid (decide (x = 0) = true) := by show _ = _; simp [hx]
      obtain rfl : n1 = 0 := by rw [← en1, hx]; rfl
      clear hx en1 ed1
      go_enter Tryz.func158, Tryz.ntmps158
      go_wp2
      go_ret
      exact E.fin (by rw [HE.out]; rfl)
    · have HE : Hid (decide (x = 0) = false) := by show _ = _; simp [hx]
      have hn : (n1 == 0) = false := by rw [beq_eq_false_iff_ne]; intro e; exact hx (Rat.num_eq_zero.1 (by rw [en1, e]))
      clear hx en1 ed1
      go_enter Tryz.func158, Tryz.ntmps158
      go_wp2
      go_ret
      exact E.fin (by rw [HE.out]; rfl)
  · have HE : Hid (decide (x = 0) = false) := by show _ = _; simp [hq1]
    go_enter Tryz.func158, Tryz.ntmps158
    go_wp2
    go_ret
    exact E.fin (by rw [HE.out]; rfl)

set_option maxRecDepth 100000 in
set_option maxHeartbeats 4000000 in
set_option synthInstance.maxSize 100000 in
set_option synthInstance.maxHeartbeats 1000000 in
theorem rCmpC {w : World} {n1 : Int} {d1 : Int} {p1 : Option Addr} {x : Rat} {n2 : Int} {d2 : Int} {p2 : Option Addr} {y : Rat} {k1 k2 : Nat} [h1 : CF w (.agg #[.int .i64 n1, .int .i64 d1, .pointer p1]) x k1] [h2 : CF w (.agg #[.int .i64 n2, .int .i64 d2, .pointer p2]) y k2] (b : k1 ≤ 100000 ∧ k2 ≤ 100000) :
    Calls Tryz.prog 194 #[.agg #[.int .i64 n1, .int .i64 d1, .pointer p1], .agg #[.int .i64 n2, .int .i64 d2, .pointer p2]] w (fun e w' => e = .returned (.int .i64 (isgn (x - y).num)) ∧ Below w.heap.size w w') := by
  rcases CF.cases h1 with ⟨rfl, en1, ed1, bn1, bm1, bd1, be1, bk1⟩ | ⟨rfl, rfl, hq1, q1, G1, A1, L1, C1, AA1, LL1, CC1, rfl, hB1, hZ1, hN1⟩
  · rcases CF.cases h2 with ⟨rfl, en2, ed2, bn2, bm2, bd2, be2, bk2⟩ | ⟨rfl, rfl, hq2, q2, G2, A2, L2, C2, AA2, LL2, CC2, rfl, hB2, hZ2, hN2⟩
    · by_cases hd : d1 = d2
      · obtain rfl : d1 = d2 := hd
        have HC := Lib.hid (cmp_same (x := x) (y := y) (by omega))
        rw [en1, en2] at HC
        clear en1 en2 ed1 ed2
        rcases Int.lt_trichotomy n1 n2 with h | h | h
        · have HE : Hid (isgn (x - y).num = -1) := by show _ = _; rw [HC.out, if_pos h]
          go_enter Tryz.func194, Tryz.ntmps194
          go_wp2
          go_ret
          exact E.fin (by rw [HE.out]; rfl)
        · subst h
          have HE : Hid (isgn (x - y).num = 0) := by show _ = _; rw [HC.out, if_neg (by omega), if_pos rfl]
          go_enter Tryz.func194, Tryz.ntmps194
          go_wp2
          go_ret
          exact E.fin (by rw [HE.out]; rfl)
        · have HE : Hid (isgn (x - y).num = 1) := by show _ = _; rw [HC.out, if_neg (by omega), if_neg (by omega)]
          go_enter Tryz.func194, Tryz.ntmps194
          go_wp2
          go_ret
          exact E.fin (by rw [HE.out]; rfl)
      · have q : (d1 == d2) = false := by rw [beq_eq_false_iff_ne]; exact hd
        clear en1 en2 ed1 ed2 hd
        go_enter Tryz.func194, Tryz.ntmps194
        go_wp2_with (first
    | (go_at_call 191; (with_reducible refine Calls.cF (rSubC (by omega)) ?_); intros)
    | (go_at_call 189; (with_reducible refine Calls.cE (rSignC (by omega)) ?_); intros))
        go_ret
        exact E.fin rfl
    · clear en1 ed1
      go_enter Tryz.func194, Tryz.ntmps194
      go_wp2_with (first
    | (go_at_call 191; (with_reducible refine Calls.cF (rSubC (by omega)) ?_); intros)
    | (go_at_call 189; (with_reducible refine Calls.cE (rSignC (by omega)) ?_); intros))
      go_ret
      exact E.fin rfl
  · go_enter Tryz.func194, Tryz.ntmps194
    go_wp2_with (first
    | (go_at_call 191; (with_reducible refine Calls.cF (rSubC (by omega)) ?_); intros)
    | (go_at_call 189; (with_reducible refine Calls.cE (rSignC (by omega)) ?_); intros))
    go_ret
    exact E.fin rfl

set_option maxRecDepth 100000 in
set_option maxHeartbeats 4000000 in
set_option synthInstance.maxSize 100000 in
set_option synthInstance.maxHeartbeats 1000000 in
theorem rEqualC {w : World} {n1 : Int} {d1 : Int} {p1 : Option Addr} {x : Rat} {n2 : Int} {d2 : Int} {p2 : Option Addr} {y : Rat} {k1 k2 : Nat} [h1 : CF w (.agg #[.int .i64 n1, .int .i64 d1, .pointer p1]) x k1] [h2 : CF w (.agg #[.int .i64 n2, .int .i64 d2, .pointer p2]) y k2] (b : k1 ≤ 100000 ∧ k2 ≤ 100000) :
    Calls Tryz.prog 171 #[.agg #[.int .i64 n1, .int .i64 d1, .pointer p1], .agg #[.int .i64 n2, .int .i64 d2, .pointer p2]] w (fun e w' => e = .returned (.bool (decide (x = y))) ∧ Below w.heap.size w w') := by
  by_cases hx : x = y
  · have HE : Hid (decide (x = y) = true) := by show _ = _; simp [hx]
    have e0 : isgn (x - y).num = 0 := by rw [isgn0, hx, Rat.num_eq_zero]; grind
    clear hx
    go_enter Tryz.func171, Tryz.ntmps171
    go_wp2_with (first
    | (go_at_call 194; (with_reducible refine Calls.cE (rCmpC (by omega)) ?_); intros))
    go_ret
    exact E.fin (by rw [HE.out]; rfl)
  · have HE : Hid (decide (x = y) = false) := by show _ = _; simp [hx]
    have e0 : (isgn (x - y).num == 0) = false := by
      rw [beq_eq_false_iff_ne]; intro e
      rw [isgn0, Rat.num_eq_zero] at e
      exact hx (by grind)
    clear hx
    go_enter Tryz.func171, Tryz.ntmps171
    go_wp2_with (first
    | (go_at_call 194; (with_reducible refine Calls.cE (rCmpC (by omega)) ?_); intros))
    go_ret
    exact E.fin (by rw [HE.out]; rfl)

set_option maxRecDepth 100000 in
set_option maxHeartbeats 4000000 in
set_option synthInstance.maxSize 100000 in
set_option synthInstance.maxHeartbeats 1000000 in
theorem rInvC {w : World} {n1 : Int} {d1 : Int} {p1 : Option Addr} {x : Rat} {k1 : Nat} [h1 : CF w (.agg #[.int .i64 n1, .int .i64 d1, .pointer p1]) x k1] (b : k1 ≤ 400000) :
    Calls Tryz.prog 176 #[.agg #[.int .i64 n1, .int .i64 d1, .pointer p1]] w (CFRet w x⁻¹ (k1 + 2)) := by
  rcases CF.cases h1 with ⟨rfl, en1, ed1, bn1, bm1, bd1, be1, bk1⟩ | ⟨rfl, rfl, hq1, q1, G1, A1, L1, C1, AA1, LL1, CC1, rfl, hB1, hZ1, hN1⟩
  · rcases Int.lt_trichotomy n1 0 with h | h | h
    · have HF : Hid (∀ W : World, CF W (.agg #[.int .i64 (-(d1 + 1)), .int .i64 (-n1 - 1), .pointer none]) x⁻¹ (k1 + 2)) := fun W => CF.small (by rw [inv_num, en1, ed1, Int.sign_eq_neg_one_of_neg h]; omega) (by rw [inv_den (by omega), en1]; omega) (by omega) (by omega) (by omega) (by omega)
      clear en1 ed1
      go_enter Tryz.func176, Tryz.ntmps176
      go_wp2
      refine ret_bx rfl Tryz.underlying115 rfl (by kernel_rfl) rfl rfl rfl ?_
      exact CFRet.fin (hx := HF.out _) rfl (by omega)
    · have HF : Hid (∀ W : World, CF W (.agg #[.int .i64 0, .int .i64 0, .pointer none]) x⁻¹ (k1 + 2)) := fun W => by
        rw [show x = 0 from Rat.num_eq_zero.1 (by omega), Rat.inv_zero]; exact CF.zero (by omega)
      subst h
      clear en1 ed1
      go_enter Tryz.func176, Tryz.ntmps176
      go_wp2
      refine ret_bx rfl Tryz.underlying115 rfl (by kernel_rfl) rfl rfl rfl ?_
      exact CFRet.fin (hx := HF.out _) rfl (by omega)
    · have HF : Hid (∀ W : World, CF W (.agg #[.int .i64 (d1 + 1), .int .i64 (n1 - 1), .pointer none]) x⁻¹ (k1 + 2)) := fun W => CF.small (by rw [inv_num, en1, ed1, Int.sign_eq_one_of_pos h]; omega) (by rw [inv_den (by omega), en1]; omega) (by omega) (by omega) (by omega) (by omega)
      clear en1 ed1
      go_enter Tryz.func176, Tryz.ntmps176
      go_wp2
      refine ret_bx rfl Tryz.underlying115 rfl (by kernel_rfl) rfl rfl rfl ?_
      exact CFRet.fin (hx := HF.out _) rfl (by omega)
  · have hz := zz_of hZ1
    have i1 : CN w (.slice A1 L1 C1) x.num.natAbs k1 := ⟨hz.2⟩
    have HE := Lib.hid (show mkRat (sgn G1 x.den) x.num.natAbs = x⁻¹ by rw [hz.1]; exact inv_sgn hq1)
    clear hz
    go_enter Tryz.func176, Tryz.ntmps176
    go_wp2_with fail
    refine region_cls (by kernel_rfl) [w.heap.size + 1] (fun hHeld => ?_)
    refine wpAnyH_take (i := 0) (v := ?z83) (by simp; rfl) (by kernel_rfl) (by kernel_rfl) (by kernel_rfl) (by exact fun _ _ _ h => h) (Or.inl ⟨by rfl, ?yz83⟩) hHeld ?_
    case yz83 => (intro wx hSw; have hSx := Ex1.mk hSw; go_simp; (try with_reducible rfl))
    try simp only [Act.put, List.setIfInBounds_toArray, List.set_cons_zero, List.set_cons_succ]
    refine wpAnyH_take (i := 1) (v := ?z84) (by simp; rfl) (by kernel_rfl) (by kernel_rfl) (by kernel_rfl) (by exact fun _ _ _ h => h) (Or.inl ⟨by rfl, ?yz84⟩) hHeld ?_
    case yz84 => (intro wx hSw; have hSx := Ex1.mk hSw; go_simp; (try with_reducible rfl))
    try simp only [Act.put, List.setIfInBounds_toArray, List.set_cons_zero, List.set_cons_succ]
    refine wpAnyH_take (i := 2) (v := ?z85) (by simp; rfl) (by kernel_rfl) (by kernel_rfl) (by kernel_rfl) (by exact fun _ _ _ h => h) (Or.inl ⟨by rfl, ?yz85⟩) hHeld ?_
    case yz85 => (intro wx hSw; have hSx := Ex1.mk hSw; go_simp; (try with_reducible rfl))
    try simp only [Act.put, List.setIfInBounds_toArray, List.set_cons_zero, List.set_cons_succ]
    refine wpAnyH_take (i := 3) (v := ?z86) (by simp; rfl) (by kernel_rfl) (by kernel_rfl) (by kernel_rfl) (by exact fun _ _ _ h => h) (Or.inl ⟨by rfl, ?yz86⟩) hHeld ?_
    case yz86 => (intro wx hSw; have hSx := Ex1.mk hSw; go_simp; (try with_reducible rfl))
    try simp only [Act.put, List.setIfInBounds_toArray, List.set_cons_zero, List.set_cons_succ]
    refine wpAnyH_take (i := 4) (v := ?z87) (by simp; rfl) (by kernel_rfl) (by kernel_rfl) (by kernel_rfl) (by exact fun _ _ _ h => h) (Or.inl ⟨by rfl, ?yz87⟩) hHeld ?_
    case yz87 => (intro wx hSw; have hSx := Ex1.mk hSw; go_simp; (try with_reducible rfl))
    try simp only [Act.put, List.setIfInBounds_toArray, List.set_cons_zero, List.set_cons_succ]
    refine wpAnyH_take (i := 5) (v := ?z88) (by simp; rfl) (by kernel_rfl) (by kernel_rfl) (by kernel_rfl) (by exact fun _ _ _ h => h) (Or.inl ⟨by rfl, ?yz88⟩) hHeld ?_
    case yz88 => (intro wx hSw; have hSx := Ex1.mk hSw; go_simp; (try with_reducible rfl))
    try simp only [Act.put, List.setIfInBounds_toArray, List.set_cons_zero, List.set_cons_succ]
    refine wpAnyH_take (i := 6) (v := ?z89) (by simp; rfl) (by kernel_rfl) (by kernel_rfl) (by kernel_rfl) (by exact fun _ _ _ h => h) (Or.inl ⟨by rfl, ?yz89⟩) hHeld ?_
    case yz89 => (intro wx hSw; have hSx := Ex1.mk hSw; go_simp; (try with_reducible rfl))
    try simp only [Act.put, List.setIfInBounds_toArray, List.set_cons_zero, List.set_cons_succ]
    refine wpAnyH_take (i := 7) (v := ?z90) (by simp; rfl) (by kernel_rfl) (by kernel_rfl) (by kernel_rfl) (by exact fun _ _ _ h => h) (Or.inl ⟨by rfl, ?yz90⟩) hHeld ?_
    case yz90 => (intro wx hSw; have hSx := Ex1.mk hSw; go_simp; (try with_reducible rfl))
    try simp only [Act.put, List.setIfInBounds_toArray, List.set_cons_zero, List.set_cons_succ]
    refine wpAnyH_take (i := 8) (v := ?z91) (by simp; rfl) (by kernel_rfl) (by kernel_rfl) (by kernel_rfl) (by exact fun _ _ _ h => h) (Or.inl ⟨by rfl, ?yz91⟩) hHeld ?_
    case yz91 => (intro wx hSw; have hSx := Ex1.mk hSw; go_simp; (try with_reducible rfl))
    try simp only [Act.put, List.setIfInBounds_toArray, List.set_cons_zero, List.set_cons_succ]
    refine wpAnyH_take (i := 9) (v := ?z92) (by simp; rfl) (by kernel_rfl) (by kernel_rfl) (by kernel_rfl) (by exact fun _ _ _ h => h) (Or.inl ⟨by rfl, ?yz92⟩) hHeld ?_
    case yz92 => (intro wx hSw; have hSx := Ex1.mk hSw; go_simp; (try with_reducible rfl))
    try simp only [Act.put, List.setIfInBounds_toArray, List.set_cons_zero, List.set_cons_succ]
    refine wpAnyH_take (i := 10) (v := ?z93) (by simp; rfl) (by kernel_rfl) (by kernel_rfl) (by kernel_rfl) (by exact fun _ _ _ h => h) (Or.inl ⟨by rfl, ?yz93⟩) hHeld ?_
    case yz93 => (intro wx hSw; have hSx := Ex1.mk hSw; go_simp; (try with_reducible rfl))
    try simp only [Act.put, List.setIfInBounds_toArray, List.set_cons_zero, List.set_cons_succ]
    refine wpAnyH_take (i := 11) (v := ?z94) (by simp; rfl) (by kernel_rfl) (by kernel_rfl) (by kernel_rfl) (by exact fun _ _ _ h => h) (Or.inl ⟨by rfl, ?yz94⟩) hHeld ?_
    case yz94 => (intro wx hSw; have hSx := Ex1.mk hSw; go_simp; (try with_reducible rfl))
    try simp only [Act.put, List.setIfInBounds_toArray, List.set_cons_zero, List.set_cons_succ]
    refine wpAnyH_take (i := 12) (v := ?z95) (by simp; rfl) (by kernel_rfl) (by kernel_rfl) (by kernel_rfl) (by exact fun _ _ _ h => h) (Or.inl ⟨by rfl, ?yz95⟩) hHeld ?_
    case yz95 => (intro wx hSw; have hSx := Ex1.mk hSw; go_simp; (try with_reducible rfl))
    try simp only [Act.put, List.setIfInBounds_toArray, List.set_cons_zero, List.set_cons_succ]
    refine wpAnyH_take (i := 13) (v := ?z96) (by simp; rfl) (by kernel_rfl) (by kernel_rfl) (by kernel_rfl) (by exact fun _ _ _ h => h) (Or.inl ⟨by rfl, ?yz96⟩) hHeld ?_
    case yz96 => (intro wx hSw; have hSx := Ex1.mk hSw; go_simp; (try with_reducible rfl))
    try simp only [Act.put, List.setIfInBounds_toArray, List.set_cons_zero, List.set_cons_succ]
    refine wpAnyH_take (i := 14) (v := ?z97) (by simp; rfl) (by kernel_rfl) (by kernel_rfl) (by kernel_rfl) (by exact fun _ _ _ h => h) (Or.inl ⟨by rfl, ?yz97⟩) hHeld ?_
    case yz97 => (intro wx hSw; have hSx := Ex1.mk hSw; go_simp; (try with_reducible rfl))
    try simp only [Act.put, List.setIfInBounds_toArray, List.set_cons_zero, List.set_cons_succ]
    refine wpAnyH_take (i := 15) (v := ?z98) (by simp; rfl) (by kernel_rfl) (by kernel_rfl) (by kernel_rfl) (by exact fun _ _ _ h => h) (Or.inl ⟨by rfl, ?yz98⟩) hHeld ?_
    case yz98 => (intro wx hSw; have hSx := Ex1.mk hSw; go_simp; (try with_reducible rfl))
    try simp only [Act.put, List.setIfInBounds_toArray, List.set_cons_zero, List.set_cons_succ]
    refine wpAnyH_take (i := 16) (v := ?z99) (by simp; rfl) (by kernel_rfl) (by kernel_rfl) (by kernel_rfl) (by exact fun _ _ _ h => h) (Or.inl ⟨by rfl, ?yz99⟩) hHeld ?_
    case yz99 => (intro wx hSw; have hSx := Ex1.mk hSw; go_simp; (try with_reducible rfl))
    try simp only [Act.put, List.setIfInBounds_toArray, List.set_cons_zero, List.set_cons_succ]
    refine wpAnyH_take (i := 17) (v := ?z100) (by simp; rfl) (by kernel_rfl) (by kernel_rfl) (by kernel_rfl) (by exact fun _ _ _ h => h) (Or.inl ⟨by rfl, ?yz100⟩) hHeld ?_
    case yz100 => (intro wx hSw; have hSx := Ex1.mk hSw; go_simp; (try with_reducible rfl))
    try simp only [Act.put, List.setIfInBounds_toArray, List.set_cons_zero, List.set_cons_succ]
    refine wpAnyH_ready (rs := [18]) (by kernel_rfl) (by simp) ?_
    refine AllReadyH.cons (by simp; rfl) (fun K hK => ?_) AllReadyH.nil
    go_simp
    (go_at_call 172; (with_reducible refine Calls.cF (reduceC (by omega)) ?_); intros)
    refine hK.out _ _ inferInstance ?_
    clear hHeld hK K
    intro hHeld
    try simp only [Act.put, List.setIfInBounds_toArray, List.set_cons_zero, List.set_cons_succ]
    refine wpAnyH_ready (rs := [19]) (by kernel_rfl) (by simp) ?_
    refine AllReadyH.cons (by simp; rfl) (fun K hK => ?_) AllReadyH.nil
    go_simp
    refine hK.out _ _ inferInstance ?_
    clear hHeld hK K
    intro hHeld
    try simp only [Act.put, List.setIfInBounds_toArray, List.set_cons_zero, List.set_cons_succ]
    refine wpAnyH_done (by kernel_rfl) ?_ _
    clear hHeld
    go_wp2
    refine ret_bx rfl Tryz.underlying115 rfl (by kernel_rfl) rfl rfl rfl ?_
    exact CFRet.fin HE.out (by omega)

set_option maxRecDepth 100000 in
set_option maxHeartbeats 4000000 in
set_option synthInstance.maxSize 100000 in
set_option synthInstance.maxHeartbeats 1000000 in
theorem rQuoC {w : World} {n1 : Int} {d1 : Int} {p1 : Option Addr} {x : Rat} {n2 : Int} {d2 : Int} {p2 : Option Addr} {y : Rat} {k1 k2 : Nat} [h1 : CF w (.agg #[.int .i64 n1, .int .i64 d1, .pointer p1]) x k1] [h2 : CF w (.agg #[.int .i64 n2, .int .i64 d2, .pointer p2]) y k2] (b : k1 ≤ 100000 ∧ k2 ≤ 100000) :
    Calls Tryz.prog 196 #[.agg #[.int .i64 n1, .int .i64 d1, .pointer p1], .agg #[.int .i64 n2, .int .i64 d2, .pointer p2]] w (CFRet w (x / y) (k1 + k2 + 4)) := by
  have HE := Lib.hid (Rat.div_def x y)
  go_enter Tryz.func196, Tryz.ntmps196
  go_wp2_with fail
  refine region_cls (by kernel_rfl) [w.heap.size + 1 + 1] (fun hHeld => ?_)
  refine wpAnyH_take (i := 0) (v := ?z101) (by simp; rfl) (by kernel_rfl) (by kernel_rfl) (by kernel_rfl) (by exact fun _ _ _ h => h) (Or.inl ⟨by rfl, ?yz101⟩) hHeld ?_
  case yz101 => (intro wx hSw; have hSx := Ex1.mk hSw; go_simp; (try with_reducible rfl))
  try simp only [Act.put, List.setIfInBounds_toArray, List.set_cons_zero, List.set_cons_succ]
  refine wpAnyH_take (i := 1) (v := ?z102) (by simp; rfl) (by kernel_rfl) (by kernel_rfl) (by kernel_rfl) (by exact fun _ _ _ h => h) (Or.inl ⟨by rfl, ?yz102⟩) hHeld ?_
  case yz102 => (intro wx hSw; have hSx := Ex1.mk hSw; go_simp; (try with_reducible rfl))
  try simp only [Act.put, List.setIfInBounds_toArray, List.set_cons_zero, List.set_cons_succ]
  refine wpAnyH_ready (rs := [2]) (by kernel_rfl) (by simp) ?_
  refine AllReadyH.cons (by simp; rfl) (fun K hK => ?_) AllReadyH.nil
  go_simp
  (go_at_call 176; (with_reducible refine Calls.cF (rInvC (by omega)) ?_); intros)
  refine hK.out _ _ inferInstance ?_
  clear hHeld hK K
  intro hHeld
  try simp only [Act.put, List.setIfInBounds_toArray, List.set_cons_zero, List.set_cons_succ]
  refine wpAnyH_ready (rs := [3]) (by kernel_rfl) (by simp) ?_
  refine AllReadyH.cons (by simp; rfl) (fun K hK => ?_) AllReadyH.nil
  go_simp
  (go_at_call 190; (with_reducible refine Calls.cF (rMulC (by omega)) ?_); intros)
  refine hK.out _ _ inferInstance ?_
  clear hHeld hK K
  intro hHeld
  try simp only [Act.put, List.setIfInBounds_toArray, List.set_cons_zero, List.set_cons_succ]
  refine wpAnyH_ready (rs := [4]) (by kernel_rfl) (by simp) ?_
  refine AllReadyH.cons (by simp; rfl) (fun K hK => ?_) AllReadyH.nil
  go_simp
  refine hK.out _ _ inferInstance ?_
  clear hHeld hK K
  intro hHeld
  try simp only [Act.put, List.setIfInBounds_toArray, List.set_cons_zero, List.set_cons_succ]
  refine wpAnyH_done (by kernel_rfl) ?_ _
  clear hHeld
  go_wp2
  refine ret_bx rfl Tryz.underlying115 rfl (by kernel_rfl) rfl rfl rfl ?_
  exact CFRet.fin HE.out.symm (by omega)

set_option maxRecDepth 100000 in
set_option maxHeartbeats 4000000 in
set_option synthInstance.maxSize 100000 in
set_option synthInstance.maxHeartbeats 1000000 in
theorem wholeC {w : World} {g1 : Bool} {a1 : Option Addr} {l1 : Nat} {c1 : Nat} {z : Int} {k1 : Nat} [h1 : CI w (.agg #[.bool g1, .slice a1 l1 c1]) z k1] (b : k1 ≤ 700000) :
    Calls Tryz.prog 99 #[.agg #[.bool g1, .slice a1 l1 c1]] w (CFRet w ((z : Rat)) (k1 + 3)) := by
  have HE := Lib.hid (mk_one z)
  go_enter Tryz.func99, Tryz.ntmps99
  go_wp2_with (first
    | (go_at_call 172; (with_reducible refine Calls.cF (reduceC (by omega)) ?_); intros))
  refine ret_bx rfl Tryz.underlying115 rfl (by kernel_rfl) rfl rfl rfl ?_
  exact CFRet.fin HE.out (by omega)

end Go.Proofs.YtlameeijogdckaaGreat
