/-
  Points and vectors of small integers off the tape; whether two points are the same.
  Printed by a small program (mktv.py).
-/
import Derived.Test.YtlameeijogdckaaGreatOrd
namespace Go.Proofs.YtlameeijogdckaaGreat
open Go.RowKit

theorem isgn_dec {x y : Rat} : (isgn (x - y).num == 0) = decide (x = y) := by
  rw [Bool.eq_iff_iff, beq_iff_eq, decide_eq_true_eq]
  rw [isg_zero]
  constructor
  · intro h; grind
  · rintro rfl; grind
set_option maxRecDepth 100000 in
set_option maxHeartbeats 4000000 in
set_option synthInstance.maxSize 100000 in
set_option synthInstance.maxHeartbeats 1000000 in
theorem refSameC {w : World} {g1x : Bool} {a1x : Option Addr} {l1x : Nat} {c1x : Nat} {aa1x : Option Addr} {ll1x : Nat} {cc1x : Nat} {g1y : Bool} {a1y : Option Addr} {l1y : Nat} {c1y : Nat} {aa1y : Option Addr} {ll1y : Nat} {cc1y : Nat} {x1 y1 : Rat} {g2x : Bool} {a2x : Option Addr} {l2x : Nat} {c2x : Nat} {aa2x : Option Addr} {ll2x : Nat} {cc2x : Nat} {g2y : Bool} {a2y : Option Addr} {l2y : Nat} {c2y : Nat} {aa2y : Option Addr} {ll2y : Nat} {cc2y : Nat} {x2 y2 : Rat} {k1x k1y k2x k2y : Nat} [h1x : CQ w (.agg #[.bool g1x, .slice a1x l1x c1x, .slice aa1x ll1x cc1x]) x1 k1x] [h1y : CQ w (.agg #[.bool g1y, .slice a1y l1y c1y, .slice aa1y ll1y cc1y]) y1 k1y] [h2x : CQ w (.agg #[.bool g2x, .slice a2x l2x c2x, .slice aa2x ll2x cc2x]) x2 k2x] [h2y : CQ w (.agg #[.bool g2y, .slice a2y l2y c2y, .slice aa2y ll2y cc2y]) y2 k2y] (b : k1x ≤ 9000 ∧ k1y ≤ 9000 ∧ k2x ≤ 9000 ∧ k2y ≤ 9000) :
    Calls Tryz.prog 20 #[.agg #[.bool g1x, .slice a1x l1x c1x, .slice aa1x ll1x cc1x, .bool g1y, .slice a1y l1y c1y, .slice aa1y ll1y cc1y], .agg #[.bool g2x, .slice a2x l2x c2x, .slice aa2x ll2x cc2x, .bool g2y, .slice a2y l2y c2y, .slice aa2y ll2y cc2y]] w (fun e w' => e = .returned (.bool (decide (x1 = x2) && decide (y1 = y2))) ∧ Below w.heap.size w w') := by
  have HX := Lib.hid (@isgn_dec x1 x2)
  have HY := Lib.hid (@isgn_dec y1 y2)
  obtain ⟨c, hc⟩ : ∃ c, isgn (x1 - x2).num = c := ⟨_, rfl⟩
  obtain ⟨d, hd⟩ : ∃ d, isgn (y1 - y2).num = d := ⟨_, rfl⟩
  rw [hc] at HX
  rw [hd] at HY
  have HC := Lib.hid hc
  have HD := Lib.hid hd
  clear hc hd
  by_cases h : c = 0
  · subst h
    go_enter Tryz.func20, Tryz.ntmps20
    go_wp2_with (first
      | (go_at_call 80; (with_reducible refine Calls.cE (numCV (by omega) HC) ?_); intros)
      | (go_at_call 80; (with_reducible refine Calls.cE (numCV (by omega) HD) ?_); intros))
    go_ret
    exact E.fin (by rw [← HX.out, ← HY.out]; simp)
  · have q : (c == 0) = false := by rw [beq_eq_false_iff_ne]; exact h
    clear h
    go_enter Tryz.func20, Tryz.ntmps20
    go_wp2_with (first
      | (go_at_call 80; (with_reducible refine Calls.cE (numCV (by omega) HC) ?_); intros)
      | (go_at_call 80; (with_reducible refine Calls.cE (numCV (by omega) HD) ?_); intros))
    go_ret
    exact E.fin (by rw [← HX.out, q]; rfl)

set_option maxRecDepth 100000 in
set_option maxHeartbeats 4000000 in
set_option synthInstance.maxSize 100000 in
set_option synthInstance.maxHeartbeats 1000000 in
theorem ptEqualC {w : World} {n1x : Int} {d1x : Int} {p1x : Option Addr} {n1y : Int} {d1y : Int} {p1y : Option Addr} {x1 y1 : Rat} {n2x : Int} {d2x : Int} {p2x : Option Addr} {n2y : Int} {d2y : Int} {p2y : Option Addr} {x2 y2 : Rat} {k1x k1y k2x k2y : Nat} [h1x : CF w (.agg #[.int .i64 n1x, .int .i64 d1x, .pointer p1x]) x1 k1x] [h1y : CF w (.agg #[.int .i64 n1y, .int .i64 d1y, .pointer p1y]) y1 k1y] [h2x : CF w (.agg #[.int .i64 n2x, .int .i64 d2x, .pointer p2x]) x2 k2x] [h2y : CF w (.agg #[.int .i64 n2y, .int .i64 d2y, .pointer p2y]) y2 k2y] (b : k1x ≤ 20000 ∧ k1y ≤ 20000 ∧ k2x ≤ 20000 ∧ k2y ≤ 20000) :
    Calls Tryz.prog 93 #[.agg #[.int .i64 n1x, .int .i64 d1x, .pointer p1x, .int .i64 n1y, .int .i64 d1y, .pointer p1y], .agg #[.int .i64 n2x, .int .i64 d2x, .pointer p2x, .int .i64 n2y, .int .i64 d2y, .pointer p2y]] w (fun e w' => e = .returned (.bool (decide (x1 = x2) && decide (y1 = y2))) ∧ Below w.heap.size w w') := by
  by_cases h : x1 = x2
  · have hd : decide (x1 = x2) = true := decide_eq_true h
    have HD := Lib.hid hd
    clear h
    go_enter Tryz.func93, Tryz.ntmps93
    go_wp2_with (first
    | (go_at_call 171; (with_reducible refine Calls.cE (rEqualC (by omega)) ?_); intros))
    go_ret
    exact E.fin (by rw [HD.out, Bool.true_and]; rfl)
  · have hd : decide (x1 = x2) = false := decide_eq_false h
    have HD := Lib.hid hd
    clear h
    go_enter Tryz.func93, Tryz.ntmps93
    go_wp2_with (first
    | (go_at_call 171; (with_reducible refine Calls.cE (rEqualC (by omega)) ?_); intros))
    go_ret
    exact E.fin (by rw [HD.out, Bool.false_and]; rfl)

set_option maxRecDepth 100000 in
set_option maxHeartbeats 4000000 in
set_option synthInstance.maxSize 100000 in
set_option synthInstance.maxHeartbeats 1000000 in
theorem pSameC {w : World} {g1x : Bool} {a1x : Option Addr} {l1x : Nat} {c1x : Nat} {aa1x : Option Addr} {ll1x : Nat} {cc1x : Nat} {g1y : Bool} {a1y : Option Addr} {l1y : Nat} {c1y : Nat} {aa1y : Option Addr} {ll1y : Nat} {cc1y : Nat} {x1 y1 : Rat} {g2x : Bool} {a2x : Option Addr} {l2x : Nat} {c2x : Nat} {aa2x : Option Addr} {ll2x : Nat} {cc2x : Nat} {g2y : Bool} {a2y : Option Addr} {l2y : Nat} {c2y : Nat} {aa2y : Option Addr} {ll2y : Nat} {cc2y : Nat} {x2 y2 : Rat} {k1x k1y k2x k2y : Nat} [h1x : CW w (.agg #[.bool g1x, .slice a1x l1x c1x, .slice aa1x ll1x cc1x]) x1 k1x] [h1y : CW w (.agg #[.bool g1y, .slice a1y l1y c1y, .slice aa1y ll1y cc1y]) y1 k1y] [h2x : CW w (.agg #[.bool g2x, .slice a2x l2x c2x, .slice aa2x ll2x cc2x]) x2 k2x] [h2y : CW w (.agg #[.bool g2y, .slice a2y l2y c2y, .slice aa2y ll2y cc2y]) y2 k2y] (b : k1x ≤ 10000 ∧ k1y ≤ 10000 ∧ k2x ≤ 10000 ∧ k2y ≤ 10000) :
    Calls Tryz.prog 19 #[.agg #[.bool g1x, .slice a1x l1x c1x, .slice aa1x ll1x cc1x, .bool g1y, .slice a1y l1y c1y, .slice aa1y ll1y cc1y], .agg #[.bool g2x, .slice a2x l2x c2x, .slice aa2x ll2x cc2x, .bool g2y, .slice a2y l2y c2y, .slice aa2y ll2y cc2y]] w (fun e w' => e = .returned (.bool (decide (x1 = x2) && decide (y1 = y2))) ∧ Below w.heap.size w w') := by
  go_enter Tryz.func19, Tryz.ntmps19
  go_wp2_with fail
  refine region_cls (by kernel_rfl) [] (fun hHeld => ?_)
  refine wpAnyH_take (i := 0) (v := ?z387) (by simp; rfl) (by kernel_rfl) (by kernel_rfl) (by kernel_rfl) (by exact fun _ _ _ h => h) (Or.inl ⟨by rfl, ?yz387⟩) hHeld ?_
  case yz387 => (intro wx hSw; have hSx := Ex1.mk hSw; go_simp; (try with_reducible rfl))
  try simp only [Act.put, List.setIfInBounds_toArray, List.set_cons_zero, List.set_cons_succ]
  refine wpAnyH_take (i := 2) (v := ?z388) (by simp; rfl) (by kernel_rfl) (by kernel_rfl) (by kernel_rfl) (by exact fun _ _ _ h => h) (Or.inl ⟨by rfl, ?yz388⟩) hHeld ?_
  case yz388 => (intro wx hSw; have hSx := Ex1.mk hSw; go_simp; (try with_reducible rfl))
  try simp only [Act.put, List.setIfInBounds_toArray, List.set_cons_zero, List.set_cons_succ]
  refine wpAnyH_ready (rs := [1]) (by kernel_rfl) (by simp) ?_
  refine AllReadyH.cons (by simp; rfl) (fun K hK => ?_) AllReadyH.nil
  go_simp
  (go_at_call 89; (with_reducible refine Calls.cPF (ptOfC (by omega)) ?_); intros)
  refine hK.out _ _ inferInstance ?_
  clear hHeld hK K
  intro hHeld
  try simp only [Act.put, List.setIfInBounds_toArray, List.set_cons_zero, List.set_cons_succ]
  refine wpAnyH_ready (rs := [3]) (by kernel_rfl) (by simp) ?_
  refine AllReadyH.cons (by simp; rfl) (fun K hK => ?_) AllReadyH.nil
  go_simp
  (go_at_call 89; (with_reducible refine Calls.cPF (ptOfC (by omega)) ?_); intros)
  refine hK.out _ _ inferInstance ?_
  clear hHeld hK K
  intro hHeld
  try simp only [Act.put, List.setIfInBounds_toArray, List.set_cons_zero, List.set_cons_succ]
  refine wpAnyH_ready (rs := [4]) (by kernel_rfl) (by simp) ?_
  refine AllReadyH.cons (by simp; rfl) (fun K hK => ?_) AllReadyH.nil
  go_simp
  (go_at_call 93; (with_reducible refine Calls.cE (ptEqualC (by omega)) ?_); intros)
  refine hK.out _ _ inferInstance ?_
  clear hHeld hK K
  intro hHeld
  try simp only [Act.put, List.setIfInBounds_toArray, List.set_cons_zero, List.set_cons_succ]
  refine wpAnyH_take (i := 5) (v := ?z389) (by simp; rfl) (by kernel_rfl) (by kernel_rfl) (by kernel_rfl) (by exact fun _ _ _ h => h) (Or.inl ⟨by rfl, ?yz389⟩) hHeld ?_
  case yz389 => (intro wx hSw; have hSx := Ex1.mk hSw; go_simp; (try with_reducible rfl))
  try simp only [Act.put, List.setIfInBounds_toArray, List.set_cons_zero, List.set_cons_succ]
  refine wpAnyH_done (by kernel_rfl) ?_ _
  clear hHeld
  go_wp2
  go_ret
  exact E.fin rfl

theorem pSameV {w : World} {v : Bool} {g1x : Bool} {a1x : Option Addr} {l1x : Nat} {c1x : Nat} {aa1x : Option Addr} {ll1x : Nat} {cc1x : Nat} {g1y : Bool} {a1y : Option Addr} {l1y : Nat} {c1y : Nat} {aa1y : Option Addr} {ll1y : Nat} {cc1y : Nat} {x1 y1 : Rat} {g2x : Bool} {a2x : Option Addr} {l2x : Nat} {c2x : Nat} {aa2x : Option Addr} {ll2x : Nat} {cc2x : Nat} {g2y : Bool} {a2y : Option Addr} {l2y : Nat} {c2y : Nat} {aa2y : Option Addr} {ll2y : Nat} {cc2y : Nat} {x2 y2 : Rat} {k1x k1y k2x k2y : Nat} [h1x : CW w (.agg #[.bool g1x, .slice a1x l1x c1x, .slice aa1x ll1x cc1x]) x1 k1x] [h1y : CW w (.agg #[.bool g1y, .slice a1y l1y c1y, .slice aa1y ll1y cc1y]) y1 k1y] [h2x : CW w (.agg #[.bool g2x, .slice a2x l2x c2x, .slice aa2x ll2x cc2x]) x2 k2x] [h2y : CW w (.agg #[.bool g2y, .slice a2y l2y c2y, .slice aa2y ll2y cc2y]) y2 k2y] (b : k1x ≤ 10000 ∧ k1y ≤ 10000 ∧ k2x ≤ 10000 ∧ k2y ≤ 10000) (hv : Hid ((decide (x1 = x2) && decide (y1 = y2)) = v)) :
    Calls Tryz.prog 19 #[.agg #[.bool g1x, .slice a1x l1x c1x, .slice aa1x ll1x cc1x, .bool g1y, .slice a1y l1y c1y, .slice aa1y ll1y cc1y], .agg #[.bool g2x, .slice a2x l2x c2x, .slice aa2x ll2x cc2x, .bool g2y, .slice a2y l2y c2y, .slice aa2y ll2y cc2y]] w (fun e w' => e = .returned (.bool v) ∧ Below w.heap.size w w') := by
  rw [← hv.out]; exact pSameC b
set_option maxRecDepth 100000 in
set_option maxHeartbeats 4000000 in
set_option synthInstance.maxSize 100000 in
set_option synthInstance.maxHeartbeats 1000000 in
theorem refXyC {w : World} {m n : Int} (b : (-9223372036854775808 ≤ m ∧ m < 9223372036854775808) ∧ -9223372036854775808 ≤ n ∧ n < 9223372036854775808) :
    Calls Tryz.prog 22 #[.int .i64 m, .int .i64 n] w (CPQRet w (m : Rat) (n : Rat) 4) := by
  go_enter Tryz.func22, Tryz.ntmps22
  go_wp2_with (first
    | (go_at_call 95; (with_reducible refine Calls.cQ (numOfC (by omega)) ?_); intros))
  refine ret_bx rfl Tryz.underlying38 rfl (by kernel_rfl) rfl rfl rfl ?_
  exact CPQRet.fin rfl (by omega) rfl (by omega)

set_option maxRecDepth 100000 in
set_option maxHeartbeats 4000000 in
set_option synthInstance.maxSize 100000 in
set_option synthInstance.maxHeartbeats 1000000 in
theorem tapePC {w : World} {t : Nat} [ht : Ct w t] : Calls Tryz.prog 110 #[.pointer (some ⟨t, 0, none⟩)] w (TPRet w t 4) := by
  go_enter Tryz.func110, Tryz.ntmps110
  go_wp2_with fail
  with_reducible refine Calls.cNext (nextC (by omega)) ?_
  intro W1 _ _ m m1 m2
  have e1 : IntKind.i64.wrap (m - 4) = m - 4 := by rw [IntKind.wrap_i64]; omega
  go_wp2_with fail
  with_reducible refine Calls.cNext (nextC (by omega)) ?_
  intro W2 _ _ n n1 n2
  have e2 : IntKind.i64.wrap (n - 4) = n - 4 := by rw [IntKind.wrap_i64]; omega
  go_wp2_with (first
    | (go_at_call 22; (with_reducible refine Calls.cPQ (refXyC (by omega)) ?_); intros))
  refine ret_bx rfl Tryz.underlying38 rfl (by kernel_rfl) rfl rfl rfl ?_
  exact ⟨_, _, _, _, _, _, _, _, _, _, _, _, _, _, _, _, rfl, inferInstance, inferInstance, inferInstance, inferInstance⟩

/-- A vector other than 0 is read off the tape. -/
def TVRet (w : World) (t : Nat) (k : Nat) (e : Ending) (w' : World) : Prop := ∃ (g : Bool) (a : Option Addr) (l c : Nat) (aa : Option Addr) (ll cc : Nat) (g2 : Bool) (a2 : Option Addr) (l2 c2 : Nat) (aa2 : Option Addr) (ll2 cc2 : Nat) (x y : Rat), e = .returned (.agg #[.bool g, .slice a l c, .slice aa ll cc, .bool g2, .slice a2 l2 c2, .slice aa2 ll2 cc2]) ∧ CQ w' (.agg #[.bool g, .slice a l c, .slice aa ll cc]) x k ∧ CQ w' (.agg #[.bool g2, .slice a2 l2 c2, .slice aa2 ll2 cc2]) y k ∧ ¬ (x = 0 ∧ y = 0) ∧ Ct w' t ∧ Gb w w' t
theorem Calls.cTV {P : Program} {f : FuncId} {args : Array Value} {w : World} {t k : Nat} {K : Ending → World → Prop} [ht : Ct w t] (h : Calls P f args w (TVRet w t k))
    (hK : ∀ w' [Tp1 w w' t] [Ct w' t] (g : Bool) (a : Option Addr) (l c : Nat) (aa : Option Addr) (ll cc : Nat) (g2 : Bool) (a2 : Option Addr) (l2 c2 : Nat) (aa2 : Option Addr) (ll2 cc2 : Nat) (x y : Rat) [CQ w' (.agg #[.bool g, .slice a l c, .slice aa ll cc]) x k] [CQ w' (.agg #[.bool g2, .slice a2 l2 c2, .slice aa2 ll2 cc2]) y k], ¬ (x = 0 ∧ y = 0) → K (.returned (.agg #[.bool g, .slice a l c, .slice aa ll cc, .bool g2, .slice a2 l2 c2, .slice aa2 ll2 cc2])) w') : Calls P f args w K := by
  refine h.mono ?_
  rintro e w' ⟨g, a, l, c, aa, ll, cc, g2, a2, l2, c2, aa2, ll2, cc2, x, y, rfl, hx, hy, hz, hc, hb⟩
  exact @hK w' ⟨hb.out, ht.out⟩ hc g a l c aa ll cc g2 a2 l2 c2 aa2 ll2 cc2 x y hx hy hz
theorem refSameV {w : World} {v : Bool} {g1x : Bool} {a1x : Option Addr} {l1x : Nat} {c1x : Nat} {aa1x : Option Addr} {ll1x : Nat} {cc1x : Nat} {g1y : Bool} {a1y : Option Addr} {l1y : Nat} {c1y : Nat} {aa1y : Option Addr} {ll1y : Nat} {cc1y : Nat} {x1 y1 : Rat} {g2x : Bool} {a2x : Option Addr} {l2x : Nat} {c2x : Nat} {aa2x : Option Addr} {ll2x : Nat} {cc2x : Nat} {g2y : Bool} {a2y : Option Addr} {l2y : Nat} {c2y : Nat} {aa2y : Option Addr} {ll2y : Nat} {cc2y : Nat} {x2 y2 : Rat} {k1x k1y k2x k2y : Nat} [h1x : CQ w (.agg #[.bool g1x, .slice a1x l1x c1x, .slice aa1x ll1x cc1x]) x1 k1x] [h1y : CQ w (.agg #[.bool g1y, .slice a1y l1y c1y, .slice aa1y ll1y cc1y]) y1 k1y] [h2x : CQ w (.agg #[.bool g2x, .slice a2x l2x c2x, .slice aa2x ll2x cc2x]) x2 k2x] [h2y : CQ w (.agg #[.bool g2y, .slice a2y l2y c2y, .slice aa2y ll2y cc2y]) y2 k2y] (b : k1x ≤ 9000 ∧ k1y ≤ 9000 ∧ k2x ≤ 9000 ∧ k2y ≤ 9000) (hv : Hid ((decide (x1 = x2) && decide (y1 = y2)) = v)) :
    Calls Tryz.prog 20 #[.agg #[.bool g1x, .slice a1x l1x c1x, .slice aa1x ll1x cc1x, .bool g1y, .slice a1y l1y c1y, .slice aa1y ll1y cc1y], .agg #[.bool g2x, .slice a2x l2x c2x, .slice aa2x ll2x cc2x, .bool g2y, .slice a2y l2y c2y, .slice aa2y ll2y cc2y]] w (fun e w' => e = .returned (.bool v) ∧ Below w.heap.size w w') := by
  rw [← hv.out]; exact refSameC b
set_option maxRecDepth 100000 in
set_option maxHeartbeats 4000000 in
set_option synthInstance.maxSize 100000 in
set_option synthInstance.maxHeartbeats 1000000 in
theorem tapeVC {w : World} {t : Nat} [ht : Ct w t] : Calls Tryz.prog 35 #[.pointer (some ⟨t, 0, none⟩)] w (TVRet w t 4) := by
  go_enter Tryz.func35, Tryz.ntmps35
  go_wp2_with fail
  with_reducible refine Calls.cTP tapePC ?_
  intro W1 _ _ g a l c aa ll cc g2 a2 l2 c2 aa2 ll2 cc2 x y _ _
  obtain ⟨v, hv⟩ : ∃ v, (decide (x = ((0 : Int) : Rat)) && decide (y = ((0 : Int) : Rat))) = v := ⟨_, rfl⟩
  have HV := Lib.hid hv
  clear hv
  cases v with
  | true =>
    go_wp2_with (first
      | (go_at_call 20; (with_reducible refine Calls.cE (refSameV (by omega) HV) ?_); intros)
      | (go_at_call 22; (with_reducible refine Calls.cPQ (refXyC (by omega)) ?_); intros))
    refine ret_bx rfl Tryz.underlying38 rfl (by kernel_rfl) rfl rfl rfl ?_
    exact ⟨_, _, _, _, _, _, _, _, _, _, _, _, _, _, _, _, rfl, inferInstance, inferInstance, fun h => absurd h.1 (by decide +kernel), inferInstance, inferInstance⟩
  | false =>
    have hz : ¬ (x = 0 ∧ y = 0) := fun h => by have := HV.out; rw [h.1, h.2] at this; revert this; decide +kernel
    have HZ := Lib.hid hz
    clear hz
    go_wp2_with (first
      | (go_at_call 20; (with_reducible refine Calls.cE (refSameV (by omega) HV) ?_); intros))
    refine ret_bx rfl Tryz.underlying38 rfl (by kernel_rfl) rfl rfl rfl ?_
    exact ⟨_, _, _, _, _, _, _, _, _, _, _, _, _, _, _, _, rfl, inferInstance, inferInstance, HZ.out, inferInstance, inferInstance⟩

end Go.Proofs.YtlameeijogdckaaGreat
