/-
  Texts of this claim, joined: Rg0, Frac3, NumQ, Ref4.
-/
import Derived.Test.YtdlnoeegboapkaaGreatDoorBN
import Derived.Test.YtdlnoeegboapkaaGreatDoorBL
import Derived.Test.YtdlnoeegboapkaaGreatDoorBM
/- Valid rings, as lists of points: plain facts. -/
namespace Go.Proofs.YtdlnoeegboapkaaGreatDoor
open Go.RowKit

/-- How many of the first k points are new, each in its turn. -/
def dsc (L : List (Rat × Rat)) : Nat → Nat
  | 0 => 0
  | k + 1 => dsc L k + if pg L k ∈ L.take k then 0 else 1
theorem dsc_mono (L : List (Rat × Rat)) {a b : Nat} (h : a ≤ b) : dsc L a ≤ dsc L b := by
  induction b with
  | zero => have : a = 0 := by omega
            subst this; exact Nat.le_refl _
  | succ b ih =>
    rcases Nat.lt_or_ge b a with hlt | hge
    · have : a = b + 1 := by omega
      subst this; exact Nat.le_refl _
    · exact Nat.le_trans (ih hge) (by simp only [dsc]; omega)
theorem mem_take_pg {L : List (Rat × Rat)} {k : Nat} (hk : k ≤ L.length) {p : Rat × Rat} : p ∈ L.take k ↔ ∃ j, j < k ∧ pg L j = p := by
  rw [List.mem_iff_getElem]
  constructor
  · rintro ⟨j, hj, e⟩
    have h1 : j < k := by rw [List.length_take] at hj; omega
    exact ⟨j, h1, by rw [pg_get (by omega), ← e, List.getElem_take]⟩
  · rintro ⟨j, hj, e⟩
    refine ⟨j, by rw [List.length_take]; omega, ?_⟩
    rw [List.getElem_take, ← e, pg_get (by omega)]
/-- A valid ring. -/
structure RingOK (L : List (Rat × Rat)) : Prop where
  three : 3 ≤ dsc L L.length
  edge : ∀ i, i < L.length → pg L i ≠ pg L ((i + 1) % L.length)
theorem RingOK.pos {L : List (Rat × Rat)} (h : RingOK L) : 0 < L.length := by
  rcases Nat.eq_zero_or_pos L.length with e | e
  · have := h.three
    rw [e] at this
    simp [dsc] at this
  · exact e
theorem dsc_three {L : List (Rat × Rat)} (h3 : 3 ≤ L.length) (h1 : pg L 1 ≠ pg L 0) (h2 : pg L 2 ≠ pg L 0) (h4 : pg L 2 ≠ pg L 1) : 3 ≤ dsc L L.length := by
  refine Nat.le_trans ?_ (dsc_mono L h3)
  have e1 : pg L 1 ∉ L.take 1 := by
    rw [mem_take_pg (by omega)]
    rintro ⟨j, hj, e⟩
    have : j = 0 := by omega
    subst this; exact h1 e.symm
  have e2 : pg L 2 ∉ L.take 2 := by
    rw [mem_take_pg (by omega)]
    rintro ⟨j, hj, e⟩
    rcases (by omega : j = 0 ∨ j = 1) with rfl | rfl
    · exact h2 e.symm
    · exact h4 e.symm
  simp [dsc, e1, e2]
/-- What the first of the equal points is: the place m. -/
def FirstAt (L : List (Rat × Rat)) (p : Rat × Rat) (m : Nat) : Prop := m < L.length ∧ pg L m = p ∧ ∀ j, j < m → pg L j ≠ p
theorem FirstAt.new {L : List (Rat × Rat)} {i m : Nat} (hi : i < L.length) (h : FirstAt L (pg L i) m) : m = i ↔ pg L i ∉ L.take i := by
  rw [mem_take_pg (by omega)]
  constructor
  · rintro rfl ⟨j, hj, e⟩
    exact h.2.2 j hj e
  · intro hn
    rcases Nat.lt_trichotomy m i with hlt | rfl | hgt
    · exact absurd ⟨m, hlt, h.2.1⟩ hn
    · rfl
    · exact absurd rfl (h.2.2 i hgt)
theorem min3_step {L : List (Rat × Rat)} {k m : Nat} (hk : k < L.length) (h : FirstAt L (pg L k) m) : min 3 (dsc L (k + 1)) = if min 3 (dsc L k) < 3 ∧ m = k then min 3 (dsc L k) + 1 else min 3 (dsc L k) := by
  have hn := h.new hk
  simp only [dsc]
  by_cases hm : m = k
  · have := hn.1 hm
    rw [if_neg this]
    split <;> omega
  · have : pg L k ∈ L.take k := by
      by_cases hc : pg L k ∈ L.take k
      · exact hc
      · exact absurd (hn.2 hc) hm
    rw [if_pos this, if_neg (fun hh => hm hh.2)]
    omega
/-- The ring of RingLimit: (0,0), (1,1), (2,0), (3,1), .. -/
def zig (n : Nat) : List (Rat × Rat) := (List.range n).map fun (i : Nat) => (((i : Int) : Rat), (((i % 2 : Nat) : Int) : Rat))
theorem zig_len (n : Nat) : (zig n).length = n := by simp [zig]
theorem zig_pg {n i : Nat} (h : i < n) : pg (zig n) i = (((i : Int) : Rat), (((i % 2 : Nat) : Int) : Rat)) := by
  rw [pg_get (by rw [zig_len]; exact h)]
  simp [zig]
theorem zig_succ (n : Nat) : zig (n + 1) = zig n ++ [(((n : Int) : Rat), (((n % 2 : Nat) : Int) : Rat))] := by simp [zig, List.range_succ]
theorem zig_ne {n i j : Nat} (hi : i < n) (hj : j < n) (hne : i ≠ j) : pg (zig n) i ≠ pg (zig n) j := by
  rw [zig_pg hi, zig_pg hj]
  intro e
  injection e with e1 _
  have := Rat.intCast_inj.1 e1
  omega
theorem zig_ok {n : Nat} (h : 3 ≤ n) : RingOK (zig n) := by
  refine ⟨dsc_three (by rw [zig_len]; exact h) (zig_ne (by omega) (by omega) (by omega)) (zig_ne (by omega) (by omega) (by omega)) (zig_ne (by omega) (by omega) (by omega)), fun i hi => ?_⟩
  rw [zig_len] at hi ⊢
  have h1 : (i + 1) % n < n := Nat.mod_lt _ (by omega)
  refine zig_ne hi h1 ?_
  rcases Nat.lt_or_ge (i + 1) n with hlt | hge
  · rw [Nat.mod_eq_of_lt hlt]; omega
  · have : i + 1 = n := by omega
    rw [this, Nat.mod_self]; omega
end Go.Proofs.YtdlnoeegboapkaaGreatDoor

/- Package frac: contracts of the comparison, the quotient, the greatest common divisor. printed by a small program (mkfrac3.py). -/
namespace Go.Proofs.YtdlnoeegboapkaaGreatDoor
open Go.RowKit
set_option maxRecDepth 100000
set_option maxHeartbeats 40000000
set_option synthInstance.maxSize 100000
set_option synthInstance.maxHeartbeats 1000000

theorem rsgn_isgn (x : Rat) : rsgn x = isgn x.num := by
  unfold rsgn isgn
  repeat' split
  all_goals omega
theorem isgn0 {z : Int} : isgn z = 0 ↔ z = 0 := by
  unfold isgn
  repeat' split
  all_goals omega
theorem cmp_same {x y : Rat} (h : x.den = y.den) : isgn (x - y).num = if x.num < y.num then -1 else if x.num = y.num then 0 else 1 := by
  rw [← rsgn_isgn]; exact sub_same_den h
theorem inv_sgn {x : Rat} (h : x ≠ 0) : mkRat (sgn (decide (x.num < 0)) x.den) x.num.natAbs = x⁻¹ := by
  rw [rat_inv_mk x h]
  by_cases hn : x.num < 0 <;> simp [hn, sgn]
theorem Calls.cZn {P : Program} {f : FuncId} {args : Array Value} {w : World} {x : Int} {k : Nat} {K : Ending → World → Prop} (h : Calls P f args w (CZRet w x k))
    (hK : ∀ w' [Kp1 w w'] (g : Bool) (a : Option Addr) (l : Nat) (c : Nat) [CZ w' (.agg #[.bool g, .slice a l c]) x k] [CN w' (.slice a l c) x.natAbs k], K (.returned (.agg #[.bool g, .slice a l c])) w') : Calls P f args w K := by
  refine h.mono ?_
  rintro e w' ⟨g, a, l, c, rfl, hx, hb⟩
  exact @hK w' ⟨hb⟩ g a l c hx ⟨(zz_of hx).2⟩
theorem rZeroC {w : World} {n1 d1 : Int} {p1 : Option Addr} {x : Rat} {k1 : Nat} [h1 : CF w (.agg #[.int .i64 n1, .int .i64 d1, .pointer p1]) x k1]  :
    Calls Tryz.prog 225 #[.agg #[.int .i64 n1, .int .i64 d1, .pointer p1]] w (fun e w' => e = .returned (.bool (decide (x = 0))) ∧ Below w.heap.size w w') := by
  rcases CF.cases h1 with ⟨rfl, en1, ed1, bn1, bm1, bd1, be1, bk1⟩ | ⟨rfl, rfl, hq1, q1, G1, A1, L1, C1, AA1, LL1, CC1, rfl, hB1, hZ1, hN1⟩
  · by_cases hx : x = 0
    · have HE : Hid (decide (x = 0) = true) := by show _ = _; simp [hx]
      obtain rfl : n1 = 0 := by rw [← en1, hx]; rfl
      clear hx en1 ed1
      go_enter Tryz.func225, Tryz.ntmps225
      go_wp2
      go_ret
      exact E.fin (by rw [HE.out]; rfl)
    · have HE : Hid (decide (x = 0) = false) := by show _ = _; simp [hx]
      have hn : (n1 == 0) = false := by rw [beq_eq_false_iff_ne]; intro e; exact hx (Rat.num_eq_zero.1 (by rw [en1, e]))
      clear hx en1 ed1
      go_enter Tryz.func225, Tryz.ntmps225
      go_wp2
      go_ret
      exact E.fin (by rw [HE.out]; rfl)
  · have HE : Hid (decide (x = 0) = false) := by show _ = _; simp [hq1]
    go_enter Tryz.func225, Tryz.ntmps225
    go_wp2
    go_ret
    exact E.fin (by rw [HE.out]; rfl)

theorem rCmpC {w : World} {n1 d1 n2 d2 : Int} {p1 p2 : Option Addr} {x y : Rat} {k1 k2 : Nat} [h1 : CF w (.agg #[.int .i64 n1, .int .i64 d1, .pointer p1]) x k1] [h2 : CF w (.agg #[.int .i64 n2, .int .i64 d2, .pointer p2]) y k2] (b : k1 ≤ 100000 ∧ k2 ≤ 100000) :
    Calls Tryz.prog 204 #[.agg #[.int .i64 n1, .int .i64 d1, .pointer p1], .agg #[.int .i64 n2, .int .i64 d2, .pointer p2]] w (fun e w' => e = .returned (.int .i64 (isgn (x - y).num)) ∧ Below w.heap.size w w') := by
  rcases CF.cases h1 with ⟨rfl, en1, ed1, bn1, bm1, bd1, be1, bk1⟩ | ⟨rfl, rfl, hq1, q1, G1, A1, L1, C1, AA1, LL1, CC1, rfl, hB1, hZ1, hN1⟩
  · rcases CF.cases h2 with ⟨rfl, en2, ed2, bn2, bm2, bd2, be2, bk2⟩ | ⟨rfl, rfl, hq2, q2, G2, A2, L2, C2, AA2, LL2, CC2, rfl, hB2, hZ2, hN2⟩
    · by_cases hd : d1 = d2
      · obtain rfl : d1 = d2 := hd
        have HC := Lib.hid (cmp_same (x := x) (y := y) (by omega))
        rw [en1, en2] at HC
        clear en1 en2 ed1 ed2
        rcases Int.lt_trichotomy n1 n2 with h | h | h
        · have HE : Hid (isgn (x - y).num = -1) := by show _ = _; rw [HC.out, if_pos h]
          go_enter Tryz.func204, Tryz.ntmps204
          go_wp2
          go_ret
          exact E.fin (by rw [HE.out]; rfl)
        · subst h
          have HE : Hid (isgn (x - y).num = 0) := by show _ = _; rw [HC.out, if_neg (by omega), if_pos rfl]
          go_enter Tryz.func204, Tryz.ntmps204
          go_wp2
          go_ret
          exact E.fin (by rw [HE.out]; rfl)
        · have HE : Hid (isgn (x - y).num = 1) := by show _ = _; rw [HC.out, if_neg (by omega), if_neg (by omega)]
          go_enter Tryz.func204, Tryz.ntmps204
          go_wp2
          go_ret
          exact E.fin (by rw [HE.out]; rfl)
      · have q : (d1 == d2) = false := by rw [beq_eq_false_iff_ne]; exact hd
        clear en1 en2 ed1 ed2 hd
        go_enter Tryz.func204, Tryz.ntmps204
        go_wp2_with (first
    | (go_at_call 214; (with_reducible refine Calls.cF (rSubC (by omega)) ?_); intros)
    | (go_at_call 171; (with_reducible refine Calls.cE (rSignC (by omega)) ?_); intros))
        go_ret
        exact E.fin rfl
    · clear en1 ed1
      go_enter Tryz.func204, Tryz.ntmps204
      go_wp2_with (first
    | (go_at_call 214; (with_reducible refine Calls.cF (rSubC (by omega)) ?_); intros)
    | (go_at_call 171; (with_reducible refine Calls.cE (rSignC (by omega)) ?_); intros))
      go_ret
      exact E.fin rfl
  · go_enter Tryz.func204, Tryz.ntmps204
    go_wp2_with (first
    | (go_at_call 214; (with_reducible refine Calls.cF (rSubC (by omega)) ?_); intros)
    | (go_at_call 171; (with_reducible refine Calls.cE (rSignC (by omega)) ?_); intros))
    go_ret
    exact E.fin rfl

theorem rEqualC {w : World} {n1 d1 n2 d2 : Int} {p1 p2 : Option Addr} {x y : Rat} {k1 k2 : Nat} [h1 : CF w (.agg #[.int .i64 n1, .int .i64 d1, .pointer p1]) x k1] [h2 : CF w (.agg #[.int .i64 n2, .int .i64 d2, .pointer p2]) y k2] (b : k1 ≤ 100000 ∧ k2 ≤ 100000) :
    Calls Tryz.prog 167 #[.agg #[.int .i64 n1, .int .i64 d1, .pointer p1], .agg #[.int .i64 n2, .int .i64 d2, .pointer p2]] w (fun e w' => e = .returned (.bool (decide (x = y))) ∧ Below w.heap.size w w') := by
  by_cases hx : x = y
  · have HE : Hid (decide (x = y) = true) := by show _ = _; simp [hx]
    have e0 : isgn (x - y).num = 0 := by rw [isgn0, hx, Rat.num_eq_zero]; grind
    clear hx
    go_enter Tryz.func167, Tryz.ntmps167
    go_wp2_with (first
    | (go_at_call 204; (with_reducible refine Calls.cE (rCmpC (by omega)) ?_); intros))
    go_ret
    exact E.fin (by rw [HE.out]; rfl)
  · have HE : Hid (decide (x = y) = false) := by show _ = _; simp [hx]
    have e0 : (isgn (x - y).num == 0) = false := by
      rw [beq_eq_false_iff_ne]; intro e
      rw [isgn0, Rat.num_eq_zero] at e
      exact hx (by grind)
    clear hx
    go_enter Tryz.func167, Tryz.ntmps167
    go_wp2_with (first
    | (go_at_call 204; (with_reducible refine Calls.cE (rCmpC (by omega)) ?_); intros))
    go_ret
    exact E.fin (by rw [HE.out]; rfl)

theorem rInvC {w : World} {n1 d1 : Int} {p1 : Option Addr} {x : Rat} {k1 : Nat} [h1 : CF w (.agg #[.int .i64 n1, .int .i64 d1, .pointer p1]) x k1] (b : k1 ≤ 400000) :
    Calls Tryz.prog 276 #[.agg #[.int .i64 n1, .int .i64 d1, .pointer p1]] w (CFRet w x⁻¹ (k1 + 2)) := by
  rcases CF.cases h1 with ⟨rfl, en1, ed1, bn1, bm1, bd1, be1, bk1⟩ | ⟨rfl, rfl, hq1, q1, G1, A1, L1, C1, AA1, LL1, CC1, rfl, hB1, hZ1, hN1⟩
  · rcases Int.lt_trichotomy n1 0 with h | h | h
    · have HF : Hid (∀ W : World, CF W (.agg #[.int .i64 (-(d1 + 1)), .int .i64 (-n1 - 1), .pointer none]) x⁻¹ (k1 + 2)) := fun W => CF.small (by rw [inv_num, en1, ed1, Int.sign_eq_neg_one_of_neg h]; omega) (by rw [inv_den (by omega), en1]; omega) (by omega) (by omega) (by omega) (by omega)
      clear en1 ed1
      go_enter Tryz.func276, Tryz.ntmps276
      go_wp2
      refine ret_bx rfl Tryz.underlying147 rfl (by kernel_rfl) rfl rfl rfl ?_
      exact CFRet.fin (hx := HF.out _) rfl (by omega)
    · have HF : Hid (∀ W : World, CF W (.agg #[.int .i64 0, .int .i64 0, .pointer none]) x⁻¹ (k1 + 2)) := fun W => by
        rw [show x = 0 from Rat.num_eq_zero.1 (by omega), Rat.inv_zero]; exact CF.zero (by omega)
      subst h
      clear en1 ed1
      go_enter Tryz.func276, Tryz.ntmps276
      go_wp2
      refine ret_bx rfl Tryz.underlying147 rfl (by kernel_rfl) rfl rfl rfl ?_
      exact CFRet.fin (hx := HF.out _) rfl (by omega)
    · have HF : Hid (∀ W : World, CF W (.agg #[.int .i64 (d1 + 1), .int .i64 (n1 - 1), .pointer none]) x⁻¹ (k1 + 2)) := fun W => CF.small (by rw [inv_num, en1, ed1, Int.sign_eq_one_of_pos h]; omega) (by rw [inv_den (by omega), en1]; omega) (by omega) (by omega) (by omega) (by omega)
      clear en1 ed1
      go_enter Tryz.func276, Tryz.ntmps276
      go_wp2
      refine ret_bx rfl Tryz.underlying147 rfl (by kernel_rfl) rfl rfl rfl ?_
      exact CFRet.fin (hx := HF.out _) rfl (by omega)
  · have hz := zz_of hZ1
    have i1 : CN w (.slice A1 L1 C1) x.num.natAbs k1 := ⟨hz.2⟩
    have HE := Lib.hid (show mkRat (sgn G1 x.den) x.num.natAbs = x⁻¹ by rw [hz.1]; exact inv_sgn hq1)
    clear hz
    go_enter Tryz.func276, Tryz.ntmps276
    go_wp2_with fail
    refine rgn [w.heap.size + 1] [] fun hHeld => ?_
    refine tk 0 hHeld ?_
    refine tk 1 hHeld ?_
    refine tk 2 hHeld ?_
    refine tk 3 hHeld ?_
    refine tk 4 hHeld ?_
    refine tk 5 hHeld ?_
    refine tk 6 hHeld ?_
    refine tk 7 hHeld ?_
    refine tk 8 hHeld ?_
    refine tk 9 hHeld ?_
    refine tk 10 hHeld ?_
    refine tk 11 hHeld ?_
    refine tk 12 hHeld ?_
    refine tk 13 hHeld ?_
    refine tk 14 hHeld ?_
    refine tk 15 hHeld ?_
    refine tk 16 hHeld ?_
    refine tk 17 hHeld ?_
    refine st 18 fun K hK => ?_
    go_simp
    (with_reducible refine Calls.cF (reduceC (by omega)) ?_); intros
    refine hd hK ?_
    clear hHeld hK K
    intro hHeld
    refine st 19 fun K hK => ?_
    go_simp
    refine hd hK ?_
    clear hHeld hK K
    intro hHeld
    refine dn ?_
    clear hHeld
    go_wp2
    refine ret_bx rfl Tryz.underlying147 rfl (by kernel_rfl) rfl rfl rfl ?_
    exact CFRet.fin HE.out (by omega)

theorem rQuoC {w : World} {n1 d1 n2 d2 : Int} {p1 p2 : Option Addr} {x y : Rat} {k1 k2 : Nat} [h1 : CF w (.agg #[.int .i64 n1, .int .i64 d1, .pointer p1]) x k1] [h2 : CF w (.agg #[.int .i64 n2, .int .i64 d2, .pointer p2]) y k2] (b : k1 ≤ 100000 ∧ k2 ≤ 100000) :
    Calls Tryz.prog 226 #[.agg #[.int .i64 n1, .int .i64 d1, .pointer p1], .agg #[.int .i64 n2, .int .i64 d2, .pointer p2]] w (CFRet w (x / y) (k1 + k2 + 4)) := by
  have HE := Lib.hid (Rat.div_def x y)
  go_enter Tryz.func226, Tryz.ntmps226
  go_wp2_with fail
  refine rgn [w.heap.size + 1 + 1] [] fun hHeld => ?_
  refine tk 0 hHeld ?_
  refine tk 1 hHeld ?_
  refine st 2 fun K hK => ?_
  go_simp
  (with_reducible refine Calls.cF (rInvC (by omega)) ?_); intros
  refine hd hK ?_
  clear hHeld hK K
  intro hHeld
  refine st 3 fun K hK => ?_
  go_simp
  (with_reducible refine Calls.cF (rMulC (by omega)) ?_); intros
  refine hd hK ?_
  clear hHeld hK K
  intro hHeld
  refine st 4 fun K hK => ?_
  go_simp
  refine hd hK ?_
  clear hHeld hK K
  intro hHeld
  refine dn ?_
  clear hHeld
  go_wp2
  refine ret_bx rfl Tryz.underlying147 rfl (by kernel_rfl) rfl rfl rfl ?_
  exact CFRet.fin HE.out.symm (by omega)

end Go.Proofs.YtdlnoeegboapkaaGreatDoor

/- The reference's arithmetic on rational numbers, and its conversions. printed by a small program (mknumq.py). -/
namespace Go.Proofs.YtdlnoeegboapkaaGreatDoor
open Go.RowKit
set_option maxRecDepth 100000
set_option maxHeartbeats 40000000
set_option synthInstance.maxSize 100000
set_option synthInstance.maxHeartbeats 1000000

theorem CQ.len {w : World} {g : Bool} {a aa : Option Addr} {l c ll cc : Nat} {x : Rat} {k : Nat} (h : CQ w (.agg #[.bool g, .slice a l c, .slice aa ll cc]) x k) : (x.den = 1 → ll = 0) ∧ (x.den ≠ 1 → 0 < ll) := by
  have hl := h.den.out.len
  refine ⟨fun e => ?_, fun e => ?_⟩
  · rw [if_pos e] at hl; exact hl
  · rw [if_neg e] at hl; rw [hl]; exact nf_len_pos x.den_nz
theorem add_parts (x y : Rat) : mkRat (x.num * sgn false y.den + y.num * sgn false x.den) (x.den * y.den) = x + y := by rw [rat_add_mk]; rfl
theorem mul_parts (x y : Rat) : mkRat (x.num * y.num) (x.den * y.den) = x * y := (rat_mul_mk x y).symm
theorem numSC {w : World} {g1 : Bool} {a1 aa1 : Option Addr} {l1 c1 ll1 cc1 k1 : Nat} {x : Rat} [h1 : CQ w (.agg #[.bool g1, .slice a1 l1 c1, .slice aa1 ll1 cc1]) x k1] :
    Calls Tryz.prog 54 #[.agg #[.bool g1, .slice a1 l1 c1, .slice aa1 ll1 cc1]] w (fun e w' => e = .returned (.int .i64 (isgn x.num)) ∧ Below w.heap.size w w') := by
  have i1 := h1.num
  go_enter Tryz.func54, Tryz.ntmps54
  go_wp2_with (first
    | (go_at_call 116; (with_reducible refine Calls.cE (numSignC) ?_); intros))
  go_ret
  exact E.fin rfl

theorem numOppC {w : World} {g1 : Bool} {a1 aa1 : Option Addr} {l1 c1 ll1 cc1 k1 : Nat} {x : Rat} [h1 : CQ w (.agg #[.bool g1, .slice a1 l1 c1, .slice aa1 ll1 cc1]) x k1] :
    Calls Tryz.prog 203 #[.agg #[.bool g1, .slice a1 l1 c1, .slice aa1 ll1 cc1]] w (CQRet w (-x) k1) := by
  have i1 := h1.num
  have i2 := h1.den
  go_enter Tryz.func203, Tryz.ntmps203
  go_wp2_with fail
  refine rgn [w.heap.size + 1] [] fun hHeld => ?_
  refine tk 0 hHeld ?_
  refine tk 1 hHeld ?_
  refine tk 3 hHeld ?_
  refine tk 4 hHeld ?_
  refine st 2 fun K hK => ?_
  go_simp
  (with_reducible refine Calls.cZ (numMinusC) ?_); intros
  refine hd hK ?_
  clear hHeld hK K
  intro hHeld
  refine tk 5 hHeld ?_
  refine st 6 fun K hK => ?_
  go_simp
  refine hd hK ?_
  clear hHeld hK K
  intro hHeld
  refine dn ?_
  clear hHeld
  go_wp2
  refine ret_bx rfl Tryz.underlying45 rfl (by kernel_rfl) rfl rfl rfl ?_
  exact CQRet.fin (hx := CQ.mk' (k := k1) (Rat.neg_num x).symm (by rw [Rat.neg_den]) (Nat.le_refl _) (Nat.le_refl _)) rfl (Nat.le_refl _)

theorem numPlusC {w : World} {g1 g2 : Bool} {a1 aa1 a2 aa2 : Option Addr} {l1 c1 ll1 cc1 l2 c2 ll2 cc2 k1 k2 : Nat} {x y : Rat} [h1 : CQ w (.agg #[.bool g1, .slice a1 l1 c1, .slice aa1 ll1 cc1]) x k1] [h2 : CQ w (.agg #[.bool g2, .slice a2 l2 c2, .slice aa2 ll2 cc2]) y k2] (b : k1 ≤ 40000 ∧ k2 ≤ 40000) :
    Calls Tryz.prog 55 #[.agg #[.bool g1, .slice a1 l1 c1, .slice aa1 ll1 cc1], .agg #[.bool g2, .slice a2 l2 c2, .slice aa2 ll2 cc2]] w (CQRet w (x + y) (k1 + k2 + 4)) := by
  have i1 := h1.num
  have i2 := h2.num
  obtain ⟨p1, p2⟩ := h1.len
  obtain ⟨p3, p4⟩ := h2.len
  have hm : x.den * y.den ≠ 0 := Nat.mul_ne_zero x.den_nz y.den_nz
  have HE := Lib.hid (add_parts x y)
  by_cases hx : x.den = 1
  · have l1 := p1 hx
    clear p1 p2
    by_cases hy : y.den = 1
    · have l2 := p3 hy
      clear p3 p4
      have HF := Lib.hid (rat_add1 (x := x) (y := y) hx hy)
      subst l1 l2
      clear hx hy
      go_enter Tryz.func55, Tryz.ntmps55
      go_wp2_with (first
    | (go_at_call 117; (with_reducible refine Calls.cZ (numAddC (by omega)) ?_); intros))
      refine ret_bx rfl Tryz.underlying45 rfl (by kernel_rfl) rfl rfl rfl ?_
      exact CQRet.fin (by exact HF.out.symm) (by omega)
    · have l2 := p4 hy
      clear p3 p4
      subst l1
      clear hx hy
      go_enter Tryz.func55, Tryz.ntmps55
      go_wp2_with fail
      refine rgn [w.heap.size + 1 + 1] [] fun hHeld => ?_
      refine tk 0 hHeld ?_
      refine tk 1 hHeld ?_
      refine tk 2 hHeld ?_
      refine tk 6 hHeld ?_
      refine tk 7 hHeld ?_
      refine tk 8 hHeld ?_
      refine tk 13 hHeld ?_
      refine tk 15 hHeld ?_
      refine st 3 fun K hK => ?_
      go_simp
      (with_reducible refine Calls.cN (numDenC) ?_); intros
      refine hd hK ?_
      clear hHeld hK K
      intro hHeld
      refine st 4 fun K hK => ?_
      go_simp
      (with_reducible refine Calls.cSg (makeC) ?_); intros
      refine hd hK ?_
      clear hHeld hK K
      intro hHeld
      refine st 5 fun K hK => ?_
      go_simp
      (with_reducible refine Calls.cZ (numMulC (by omega)) ?_); intros
      refine hd hK ?_
      clear hHeld hK K
      intro hHeld
      refine st 9 fun K hK => ?_
      go_simp
      (with_reducible refine Calls.cN (numDenC) ?_); intros
      refine hd hK ?_
      clear hHeld hK K
      intro hHeld
      refine st 10 fun K hK => ?_
      go_simp
      (with_reducible refine Calls.cSg (makeC) ?_); intros
      refine hd hK ?_
      clear hHeld hK K
      intro hHeld
      refine st 11 fun K hK => ?_
      go_simp
      (with_reducible refine Calls.cZ (numMulC (by omega)) ?_); intros
      refine hd hK ?_
      clear hHeld hK K
      intro hHeld
      refine st 12 fun K hK => ?_
      go_simp
      (with_reducible refine Calls.cZ (numAddC (by omega)) ?_); intros
      refine hd hK ?_
      clear hHeld hK K
      intro hHeld
      refine st 14 fun K hK => ?_
      go_simp
      (with_reducible refine Calls.cN (numDenC) ?_); intros
      refine hd hK ?_
      clear hHeld hK K
      intro hHeld
      refine st 16 fun K hK => ?_
      go_simp
      (with_reducible refine Calls.cN (numDenC) ?_); intros
      refine hd hK ?_
      clear hHeld hK K
      intro hHeld
      refine st 17 fun K hK => ?_
      go_simp
      (with_reducible refine Calls.cN (numProductC (by omega)) ?_); intros
      refine hd hK ?_
      clear hHeld hK K
      intro hHeld
      refine st 18 fun K hK => ?_
      go_simp
      (with_reducible refine Calls.cQ (numFracC (by omega) hm) ?_); intros
      refine hd hK ?_
      clear hHeld hK K
      intro hHeld
      refine st 19 fun K hK => ?_
      go_simp
      refine hd hK ?_
      clear hHeld hK K
      intro hHeld
      refine dn ?_
      clear hHeld
      go_wp2
      refine ret_bx rfl Tryz.underlying45 rfl (by kernel_rfl) rfl rfl rfl ?_
      exact CQRet.fin HE.out (by omega)
  · have l1 := p2 hx
    clear p1 p2 p3 p4 hx
    go_enter Tryz.func55, Tryz.ntmps55
    go_wp2_with fail
    refine rgn [w.heap.size + 1 + 1] [] fun hHeld => ?_
    refine tk 0 hHeld ?_
    refine tk 1 hHeld ?_
    refine tk 2 hHeld ?_
    refine tk 6 hHeld ?_
    refine tk 7 hHeld ?_
    refine tk 8 hHeld ?_
    refine tk 13 hHeld ?_
    refine tk 15 hHeld ?_
    refine st 3 fun K hK => ?_
    go_simp
    (with_reducible refine Calls.cN (numDenC) ?_); intros
    refine hd hK ?_
    clear hHeld hK K
    intro hHeld
    refine st 4 fun K hK => ?_
    go_simp
    (with_reducible refine Calls.cSg (makeC) ?_); intros
    refine hd hK ?_
    clear hHeld hK K
    intro hHeld
    refine st 5 fun K hK => ?_
    go_simp
    (with_reducible refine Calls.cZ (numMulC (by omega)) ?_); intros
    refine hd hK ?_
    clear hHeld hK K
    intro hHeld
    refine st 9 fun K hK => ?_
    go_simp
    (with_reducible refine Calls.cN (numDenC) ?_); intros
    refine hd hK ?_
    clear hHeld hK K
    intro hHeld
    refine st 10 fun K hK => ?_
    go_simp
    (with_reducible refine Calls.cSg (makeC) ?_); intros
    refine hd hK ?_
    clear hHeld hK K
    intro hHeld
    refine st 11 fun K hK => ?_
    go_simp
    (with_reducible refine Calls.cZ (numMulC (by omega)) ?_); intros
    refine hd hK ?_
    clear hHeld hK K
    intro hHeld
    refine st 12 fun K hK => ?_
    go_simp
    (with_reducible refine Calls.cZ (numAddC (by omega)) ?_); intros
    refine hd hK ?_
    clear hHeld hK K
    intro hHeld
    refine st 14 fun K hK => ?_
    go_simp
    (with_reducible refine Calls.cN (numDenC) ?_); intros
    refine hd hK ?_
    clear hHeld hK K
    intro hHeld
    refine st 16 fun K hK => ?_
    go_simp
    (with_reducible refine Calls.cN (numDenC) ?_); intros
    refine hd hK ?_
    clear hHeld hK K
    intro hHeld
    refine st 17 fun K hK => ?_
    go_simp
    (with_reducible refine Calls.cN (numProductC (by omega)) ?_); intros
    refine hd hK ?_
    clear hHeld hK K
    intro hHeld
    refine st 18 fun K hK => ?_
    go_simp
    (with_reducible refine Calls.cQ (numFracC (by omega) hm) ?_); intros
    refine hd hK ?_
    clear hHeld hK K
    intro hHeld
    refine st 19 fun K hK => ?_
    go_simp
    refine hd hK ?_
    clear hHeld hK K
    intro hHeld
    refine dn ?_
    clear hHeld
    go_wp2
    refine ret_bx rfl Tryz.underlying45 rfl (by kernel_rfl) rfl rfl rfl ?_
    exact CQRet.fin HE.out (by omega)

theorem numTimesC {w : World} {g1 g2 : Bool} {a1 aa1 a2 aa2 : Option Addr} {l1 c1 ll1 cc1 l2 c2 ll2 cc2 k1 k2 : Nat} {x y : Rat} [h1 : CQ w (.agg #[.bool g1, .slice a1 l1 c1, .slice aa1 ll1 cc1]) x k1] [h2 : CQ w (.agg #[.bool g2, .slice a2 l2 c2, .slice aa2 ll2 cc2]) y k2] (b : k1 ≤ 40000 ∧ k2 ≤ 40000) :
    Calls Tryz.prog 147 #[.agg #[.bool g1, .slice a1 l1 c1, .slice aa1 ll1 cc1], .agg #[.bool g2, .slice a2 l2 c2, .slice aa2 ll2 cc2]] w (CQRet w (x * y) (k1 + k2 + 4)) := by
  have i1 := h1.num
  have i2 := h2.num
  obtain ⟨p1, p2⟩ := h1.len
  obtain ⟨p3, p4⟩ := h2.len
  have hm : x.den * y.den ≠ 0 := Nat.mul_ne_zero x.den_nz y.den_nz
  have HE := Lib.hid (mul_parts x y)
  by_cases hx : x.den = 1
  · have l1 := p1 hx
    clear p1 p2
    by_cases hy : y.den = 1
    · have l2 := p3 hy
      clear p3 p4
      have HF := Lib.hid (rat_mul1 (x := x) (y := y) hx hy)
      subst l1 l2
      clear hx hy
      go_enter Tryz.func147, Tryz.ntmps147
      go_wp2_with (first
    | (go_at_call 118; (with_reducible refine Calls.cZ (numMulC (by omega)) ?_); intros))
      refine ret_bx rfl Tryz.underlying45 rfl (by kernel_rfl) rfl rfl rfl ?_
      exact CQRet.fin (by exact HF.out.symm) (by omega)
    · have l2 := p4 hy
      clear p3 p4
      subst l1
      clear hx hy
      go_enter Tryz.func147, Tryz.ntmps147
      go_wp2_with fail
      refine rgn [w.heap.size + 1 + 1] [] fun hHeld => ?_
      refine tk 0 hHeld ?_
      refine tk 1 hHeld ?_
      refine tk 2 hHeld ?_
      refine tk 3 hHeld ?_
      refine tk 5 hHeld ?_
      refine tk 7 hHeld ?_
      refine st 4 fun K hK => ?_
      go_simp
      (with_reducible refine Calls.cZ (numMulC (by omega)) ?_); intros
      refine hd hK ?_
      clear hHeld hK K
      intro hHeld
      refine st 6 fun K hK => ?_
      go_simp
      (with_reducible refine Calls.cN (numDenC) ?_); intros
      refine hd hK ?_
      clear hHeld hK K
      intro hHeld
      refine st 8 fun K hK => ?_
      go_simp
      (with_reducible refine Calls.cN (numDenC) ?_); intros
      refine hd hK ?_
      clear hHeld hK K
      intro hHeld
      refine st 9 fun K hK => ?_
      go_simp
      (with_reducible refine Calls.cN (numProductC (by omega)) ?_); intros
      refine hd hK ?_
      clear hHeld hK K
      intro hHeld
      refine st 10 fun K hK => ?_
      go_simp
      (with_reducible refine Calls.cQ (numFracC (by omega) hm) ?_); intros
      refine hd hK ?_
      clear hHeld hK K
      intro hHeld
      refine st 11 fun K hK => ?_
      go_simp
      refine hd hK ?_
      clear hHeld hK K
      intro hHeld
      refine dn ?_
      clear hHeld
      go_wp2
      refine ret_bx rfl Tryz.underlying45 rfl (by kernel_rfl) rfl rfl rfl ?_
      exact CQRet.fin HE.out (by omega)
  · have l1 := p2 hx
    clear p1 p2 p3 p4 hx
    go_enter Tryz.func147, Tryz.ntmps147
    go_wp2_with fail
    refine rgn [w.heap.size + 1 + 1] [] fun hHeld => ?_
    refine tk 0 hHeld ?_
    refine tk 1 hHeld ?_
    refine tk 2 hHeld ?_
    refine tk 3 hHeld ?_
    refine tk 5 hHeld ?_
    refine tk 7 hHeld ?_
    refine st 4 fun K hK => ?_
    go_simp
    (with_reducible refine Calls.cZ (numMulC (by omega)) ?_); intros
    refine hd hK ?_
    clear hHeld hK K
    intro hHeld
    refine st 6 fun K hK => ?_
    go_simp
    (with_reducible refine Calls.cN (numDenC) ?_); intros
    refine hd hK ?_
    clear hHeld hK K
    intro hHeld
    refine st 8 fun K hK => ?_
    go_simp
    (with_reducible refine Calls.cN (numDenC) ?_); intros
    refine hd hK ?_
    clear hHeld hK K
    intro hHeld
    refine st 9 fun K hK => ?_
    go_simp
    (with_reducible refine Calls.cN (numProductC (by omega)) ?_); intros
    refine hd hK ?_
    clear hHeld hK K
    intro hHeld
    refine st 10 fun K hK => ?_
    go_simp
    (with_reducible refine Calls.cQ (numFracC (by omega) hm) ?_); intros
    refine hd hK ?_
    clear hHeld hK K
    intro hHeld
    refine st 11 fun K hK => ?_
    go_simp
    refine hd hK ?_
    clear hHeld hK K
    intro hHeld
    refine dn ?_
    clear hHeld
    go_wp2
    refine ret_bx rfl Tryz.underlying45 rfl (by kernel_rfl) rfl rfl rfl ?_
    exact CQRet.fin HE.out (by omega)

theorem numSubC {w : World} {g1 g2 : Bool} {a1 aa1 a2 aa2 : Option Addr} {l1 c1 ll1 cc1 l2 c2 ll2 cc2 k1 k2 : Nat} {x y : Rat} [h1 : CQ w (.agg #[.bool g1, .slice a1 l1 c1, .slice aa1 ll1 cc1]) x k1] [h2 : CQ w (.agg #[.bool g2, .slice a2 l2 c2, .slice aa2 ll2 cc2]) y k2] (b : k1 ≤ 40000 ∧ k2 ≤ 40000) :
    Calls Tryz.prog 146 #[.agg #[.bool g1, .slice a1 l1 c1, .slice aa1 ll1 cc1], .agg #[.bool g2, .slice a2 l2 c2, .slice aa2 ll2 cc2]] w (CQRet w (x - y) (k1 + k2 + 4)) := by
  have HE := Lib.hid (Rat.sub_eq_add_neg x y)
  go_enter Tryz.func146, Tryz.ntmps146
  go_wp2_with fail
  refine rgn [w.heap.size + 1 + 1] [] fun hHeld => ?_
  refine tk 0 hHeld ?_
  refine tk 1 hHeld ?_
  refine st 2 fun K hK => ?_
  go_simp
  (with_reducible refine Calls.cQ (numOppC) ?_); intros
  refine hd hK ?_
  clear hHeld hK K
  intro hHeld
  refine st 3 fun K hK => ?_
  go_simp
  (with_reducible refine Calls.cQ (numPlusC (by omega)) ?_); intros
  refine hd hK ?_
  clear hHeld hK K
  intro hHeld
  refine st 4 fun K hK => ?_
  go_simp
  refine hd hK ?_
  clear hHeld hK K
  intro hHeld
  refine dn ?_
  clear hHeld
  go_wp2
  refine ret_bx rfl Tryz.underlying45 rfl (by kernel_rfl) rfl rfl rfl ?_
  exact CQRet.fin HE.out.symm (by omega)

theorem numCC {w : World} {g1 g2 : Bool} {a1 aa1 a2 aa2 : Option Addr} {l1 c1 ll1 cc1 l2 c2 ll2 cc2 k1 k2 : Nat} {x y : Rat} [h1 : CQ w (.agg #[.bool g1, .slice a1 l1 c1, .slice aa1 ll1 cc1]) x k1] [h2 : CQ w (.agg #[.bool g2, .slice a2 l2 c2, .slice aa2 ll2 cc2]) y k2] (b : k1 ≤ 40000 ∧ k2 ≤ 40000) :
    Calls Tryz.prog 78 #[.agg #[.bool g1, .slice a1 l1 c1, .slice aa1 ll1 cc1], .agg #[.bool g2, .slice a2 l2 c2, .slice aa2 ll2 cc2]] w (fun e w' => e = .returned (.int .i64 (isgn (x - y).num)) ∧ Below w.heap.size w w') := by
  go_enter Tryz.func78, Tryz.ntmps78
  go_wp2_with (first
    | (go_at_call 146; (with_reducible refine Calls.cQ (numSubC (by omega)) ?_); intros)
    | (go_at_call 54; (with_reducible refine Calls.cE (numSC) ?_); intros))
  go_ret
  exact E.fin rfl

theorem refQC {w : World} {g1 : Bool} {a1 aa1 : Option Addr} {l1 c1 ll1 cc1 k1 : Nat} {x : Rat} [h1 : CW w (.agg #[.bool g1, .slice a1 l1 c1, .slice aa1 ll1 cc1]) x k1] (b : k1 ≤ 90000) :
    Calls Tryz.prog 56 #[.agg #[.bool g1, .slice a1 l1 c1, .slice aa1 ll1 cc1]] w (CQRet w x (k1 + 2)) := by
  obtain ⟨z, m, rfl, i1, i2⟩ := CW.parts h1
  by_cases hm : m = 0
  · subst hm
    rw [Rat.mkRat_zero]
    go_enter Tryz.func56, Tryz.ntmps56
    go_wp2_with fail
    with_reducible refine Calls.cN (refNC (by omega)) ?_
    intro W1 _ a3 l3 c3 i3
    have hl : l3 = 0 := i3.out.len
    subst hl
    go_wp2
    refine ret_bx rfl Tryz.underlying45 rfl (by kernel_rfl) rfl rfl rfl ?_
    exact CQRet.fin (hx := CQ.mk' (z := 0) (n := 0) (k := k1 + 2) (by simp) (by simp) (by omega) (by omega)) rfl (by omega)
  · go_enter Tryz.func56, Tryz.ntmps56
    go_wp2_with fail
    with_reducible refine Calls.cN (refNC (by omega)) ?_
    intro W1 _ a3 l3 c3 i3
    have hl := i3.out.len
    have hl0 : 0 < l3 := by rw [hl]; exact nf_len_pos hm
    clear hl
    go_wp2_with (first
    | (go_at_call 120; (with_reducible refine Calls.cZ (refIC (by omega)) ?_); intros)
    | (go_at_call 75; (with_reducible refine Calls.cQ (numFracC (by omega) hm) ?_); intros))
    refine ret_bx rfl Tryz.underlying45 rfl (by kernel_rfl) rfl rfl rfl ?_
    exact CQRet.fin rfl (by omega)

theorem sameQC {w : World} {g1 g2 : Bool} {a1 aa1 a2 aa2 : Option Addr} {l1 c1 ll1 cc1 l2 c2 ll2 cc2 k1 k2 : Nat} {x y : Rat} [h1 : CA w (.agg #[.bool g1, .slice a1 l1 c1, .slice aa1 ll1 cc1]) x k1] [h2 : CA w (.agg #[.bool g2, .slice a2 l2 c2, .slice aa2 ll2 cc2]) y k2] (hxy : x = y) :
    Calls Tryz.prog 39 #[.agg #[.bool g1, .slice a1 l1 c1, .slice aa1 ll1 cc1], .agg #[.bool g2, .slice a2 l2 c2, .slice aa2 ll2 cc2]] w (fun e w' => e = .returned (.bool true) ∧ Below w.heap.size w w') := by
  have i1 := h1.num
  have i2 := h1.den
  have i3 := h2.num
  have i4 := h2.den
  subst hxy
  go_enter Tryz.func39, Tryz.ntmps39
  go_wp2_with (first
    | (go_at_call 99; (with_reducible refine Calls.cE (sameIC rfl) ?_); intros)
    | (go_at_call 100; (with_reducible refine Calls.cE (sameNC rfl) ?_); intros))
  go_ret
  exact E.fin rfl

end Go.Proofs.YtdlnoeegboapkaaGreatDoor

/- The reference's points, the products of package point, and what the laws of layer 4 compare. printed by a small program (mkref4.py). -/
namespace Go.Proofs.YtdlnoeegboapkaaGreatDoor
open Go.RowKit
set_option maxRecDepth 100000
set_option maxHeartbeats 40000000
set_option synthInstance.maxSize 100000
set_option synthInstance.maxHeartbeats 1000000

theorem refPtC {w : World} {g1x g1y : Bool} {a1x aa1x a1y aa1y : Option Addr} {l1x c1x ll1x cc1x l1y c1y ll1y cc1y k1x k1y : Nat} {x y : Rat} [h1x : CW w (.agg #[.bool g1x, .slice a1x l1x c1x, .slice aa1x ll1x cc1x]) x k1x] [h1y : CW w (.agg #[.bool g1y, .slice a1y l1y c1y, .slice aa1y ll1y cc1y]) y k1y] (b : k1x ≤ 90000 ∧ k1y ≤ 90000) :
    Calls Tryz.prog 16 #[.agg #[.bool g1x, .slice a1x l1x c1x, .slice aa1x ll1x cc1x, .bool g1y, .slice a1y l1y c1y, .slice aa1y ll1y cc1y]] w (CPQRet w (x) (y) (max k1x k1y + 2)) := by
  go_enter Tryz.func16, Tryz.ntmps16
  go_wp2_with fail
  refine rgn [w.heap.size + 1] [] fun hHeld => ?_
  refine tk 0 hHeld ?_
  refine tk 1 hHeld ?_
  refine tk 3 hHeld ?_
  refine tk 4 hHeld ?_
  refine st 2 fun K hK => ?_
  go_simp
  (with_reducible refine Calls.cQ (refQC (by omega)) ?_); intros
  refine hd hK ?_
  clear hHeld hK K
  intro hHeld
  refine st 5 fun K hK => ?_
  go_simp
  (with_reducible refine Calls.cQ (refQC (by omega)) ?_); intros
  refine hd hK ?_
  clear hHeld hK K
  intro hHeld
  refine tk 6 hHeld ?_
  refine st 7 fun K hK => ?_
  go_simp
  refine hd hK ?_
  clear hHeld hK K
  intro hHeld
  refine dn ?_
  clear hHeld
  go_wp2
  refine ret_bx rfl Tryz.underlying47 rfl (by kernel_rfl) rfl rfl rfl ?_
  exact CPQRet.fin rfl (by omega) rfl (by omega)

theorem refPAddC {w : World} {g1x g1y g2 g3x g3y : Bool} {a1x aa1x a1y aa1y a2 aa2 a3x aa3x a3y aa3y : Option Addr} {l1x c1x ll1x cc1x l1y c1y ll1y cc1y l2 c2 ll2 cc2 l3x c3x ll3x cc3x l3y c3y ll3y cc3y k1x k1y k2 k3x k3y : Nat} {x1 y1 z x2 y2 : Rat} [h1x : CQ w (.agg #[.bool g1x, .slice a1x l1x c1x, .slice aa1x ll1x cc1x]) x1 k1x] [h1y : CQ w (.agg #[.bool g1y, .slice a1y l1y c1y, .slice aa1y ll1y cc1y]) y1 k1y] [h2 : CQ w (.agg #[.bool g2, .slice a2 l2 c2, .slice aa2 ll2 cc2]) z k2] [h3x : CQ w (.agg #[.bool g3x, .slice a3x l3x c3x, .slice aa3x ll3x cc3x]) x2 k3x] [h3y : CQ w (.agg #[.bool g3y, .slice a3y l3y c3y, .slice aa3y ll3y cc3y]) y2 k3y] (b : k1x ≤ 10000 ∧ k1y ≤ 10000 ∧ k2 ≤ 10000 ∧ k3x ≤ 10000 ∧ k3y ≤ 10000) :
    Calls Tryz.prog 82 #[.agg #[.bool g1x, .slice a1x l1x c1x, .slice aa1x ll1x cc1x, .bool g1y, .slice a1y l1y c1y, .slice aa1y ll1y cc1y], .agg #[.bool g2, .slice a2 l2 c2, .slice aa2 ll2 cc2], .agg #[.bool g3x, .slice a3x l3x c3x, .slice aa3x ll3x cc3x, .bool g3y, .slice a3y l3y c3y, .slice aa3y ll3y cc3y]] w (CPQRet w (x1 + z * x2) (y1 + z * y2) (max k1x k1y + k2 + max k3x k3y + 8)) := by
  go_enter Tryz.func82, Tryz.ntmps82
  go_wp2_with fail
  refine rgn [w.heap.size + 1 + 1 + 1] [] fun hHeld => ?_
  refine tk 0 hHeld ?_
  refine tk 1 hHeld ?_
  refine tk 2 hHeld ?_
  refine tk 3 hHeld ?_
  refine tk 4 hHeld ?_
  refine tk 7 hHeld ?_
  refine tk 8 hHeld ?_
  refine tk 9 hHeld ?_
  refine tk 10 hHeld ?_
  refine tk 11 hHeld ?_
  refine st 5 fun K hK => ?_
  go_simp
  (with_reducible refine Calls.cQ (numTimesC (by omega)) ?_); intros
  refine hd hK ?_
  clear hHeld hK K
  intro hHeld
  refine st 6 fun K hK => ?_
  go_simp
  (with_reducible refine Calls.cQ (numPlusC (by omega)) ?_); intros
  refine hd hK ?_
  clear hHeld hK K
  intro hHeld
  refine st 12 fun K hK => ?_
  go_simp
  (with_reducible refine Calls.cQ (numTimesC (by omega)) ?_); intros
  refine hd hK ?_
  clear hHeld hK K
  intro hHeld
  refine st 13 fun K hK => ?_
  go_simp
  (with_reducible refine Calls.cQ (numPlusC (by omega)) ?_); intros
  refine hd hK ?_
  clear hHeld hK K
  intro hHeld
  refine tk 14 hHeld ?_
  refine st 15 fun K hK => ?_
  go_simp
  refine hd hK ?_
  clear hHeld hK K
  intro hHeld
  refine dn ?_
  clear hHeld
  go_wp2
  refine ret_bx rfl Tryz.underlying47 rfl (by kernel_rfl) rfl rfl rfl ?_
  exact CPQRet.fin rfl (by omega) rfl (by omega)

theorem refPSubC {w : World} {g1x g1y g2x g2y : Bool} {a1x aa1x a1y aa1y a2x aa2x a2y aa2y : Option Addr} {l1x c1x ll1x cc1x l1y c1y ll1y cc1y l2x c2x ll2x cc2x l2y c2y ll2y cc2y k1x k1y k2x k2y : Nat} {x1 y1 x2 y2 : Rat} [h1x : CQ w (.agg #[.bool g1x, .slice a1x l1x c1x, .slice aa1x ll1x cc1x]) x1 k1x] [h1y : CQ w (.agg #[.bool g1y, .slice a1y l1y c1y, .slice aa1y ll1y cc1y]) y1 k1y] [h2x : CQ w (.agg #[.bool g2x, .slice a2x l2x c2x, .slice aa2x ll2x cc2x]) x2 k2x] [h2y : CQ w (.agg #[.bool g2y, .slice a2y l2y c2y, .slice aa2y ll2y cc2y]) y2 k2y] (b : k1x ≤ 9000 ∧ k1y ≤ 9000 ∧ k2x ≤ 9000 ∧ k2y ≤ 9000) :
    Calls Tryz.prog 178 #[.agg #[.bool g1x, .slice a1x l1x c1x, .slice aa1x ll1x cc1x, .bool g1y, .slice a1y l1y c1y, .slice aa1y ll1y cc1y], .agg #[.bool g2x, .slice a2x l2x c2x, .slice aa2x ll2x cc2x, .bool g2y, .slice a2y l2y c2y, .slice aa2y ll2y cc2y]] w (CPQRet w (x1 - x2) (y1 - y2) (max k1x k1y + max k2x k2y + 10)) := by
  have EX := Lib.hid (show x1 + ((-1 : Int) : Rat) * x2 = x1 - x2 by rw [show ((-1 : Int) : Rat) = -1 from rfl]; grind)
  have EY := Lib.hid (show y1 + ((-1 : Int) : Rat) * y2 = y1 - y2 by rw [show ((-1 : Int) : Rat) = -1 from rfl]; grind)
  go_enter Tryz.func178, Tryz.ntmps178
  go_wp2_with fail
  refine rgn [w.heap.size + 1 + 1] [] fun hHeld => ?_
  refine tk 0 hHeld ?_
  refine tk 2 hHeld ?_
  refine st 1 fun K hK => ?_
  go_simp
  (with_reducible refine Calls.cQ (numOfC (by omega)) ?_); intros
  refine hd hK ?_
  clear hHeld hK K
  intro hHeld
  refine st 3 fun K hK => ?_
  go_simp
  (with_reducible refine Calls.cPQ (refPAddC (by omega)) ?_); intros
  refine hd hK ?_
  clear hHeld hK K
  intro hHeld
  refine st 4 fun K hK => ?_
  go_simp
  refine hd hK ?_
  clear hHeld hK K
  intro hHeld
  refine dn ?_
  clear hHeld
  go_wp2
  refine ret_bx rfl Tryz.underlying47 rfl (by kernel_rfl) rfl rfl rfl ?_
  exact CPQRet.fin EX.out (by omega) EY.out (by omega)

theorem refDotC {w : World} {g1x g1y g2x g2y : Bool} {a1x aa1x a1y aa1y a2x aa2x a2y aa2y : Option Addr} {l1x c1x ll1x cc1x l1y c1y ll1y cc1y l2x c2x ll2x cc2x l2y c2y ll2y cc2y k1x k1y k2x k2y : Nat} {x1 y1 x2 y2 : Rat} [h1x : CQ w (.agg #[.bool g1x, .slice a1x l1x c1x, .slice aa1x ll1x cc1x]) x1 k1x] [h1y : CQ w (.agg #[.bool g1y, .slice a1y l1y c1y, .slice aa1y ll1y cc1y]) y1 k1y] [h2x : CQ w (.agg #[.bool g2x, .slice a2x l2x c2x, .slice aa2x ll2x cc2x]) x2 k2x] [h2y : CQ w (.agg #[.bool g2y, .slice a2y l2y c2y, .slice aa2y ll2y cc2y]) y2 k2y] (b : k1x ≤ 9000 ∧ k1y ≤ 9000 ∧ k2x ≤ 9000 ∧ k2y ≤ 9000) :
    Calls Tryz.prog 220 #[.agg #[.bool g1x, .slice a1x l1x c1x, .slice aa1x ll1x cc1x, .bool g1y, .slice a1y l1y c1y, .slice aa1y ll1y cc1y], .agg #[.bool g2x, .slice a2x l2x c2x, .slice aa2x ll2x cc2x, .bool g2y, .slice a2y l2y c2y, .slice aa2y ll2y cc2y]] w (CQRet w (x1 * x2 + y1 * y2) (k1x + k1y + k2x + k2y + 12)) := by
  go_enter Tryz.func220, Tryz.ntmps220
  go_wp2_with fail
  refine rgn [w.heap.size + 1 + 1] [] fun hHeld => ?_
  refine tk 0 hHeld ?_
  refine tk 1 hHeld ?_
  refine tk 2 hHeld ?_
  refine tk 3 hHeld ?_
  refine tk 5 hHeld ?_
  refine tk 6 hHeld ?_
  refine tk 7 hHeld ?_
  refine tk 8 hHeld ?_
  refine st 4 fun K hK => ?_
  go_simp
  (with_reducible refine Calls.cQ (numTimesC (by omega)) ?_); intros
  refine hd hK ?_
  clear hHeld hK K
  intro hHeld
  refine st 9 fun K hK => ?_
  go_simp
  (with_reducible refine Calls.cQ (numTimesC (by omega)) ?_); intros
  refine hd hK ?_
  clear hHeld hK K
  intro hHeld
  refine st 10 fun K hK => ?_
  go_simp
  (with_reducible refine Calls.cQ (numPlusC (by omega)) ?_); intros
  refine hd hK ?_
  clear hHeld hK K
  intro hHeld
  refine st 11 fun K hK => ?_
  go_simp
  refine hd hK ?_
  clear hHeld hK K
  intro hHeld
  refine dn ?_
  clear hHeld
  go_wp2
  refine ret_bx rfl Tryz.underlying45 rfl (by kernel_rfl) rfl rfl rfl ?_
  exact CQRet.fin rfl (by omega)

theorem refCrossC {w : World} {g1x g1y g2x g2y : Bool} {a1x aa1x a1y aa1y a2x aa2x a2y aa2y : Option Addr} {l1x c1x ll1x cc1x l1y c1y ll1y cc1y l2x c2x ll2x cc2x l2y c2y ll2y cc2y k1x k1y k2x k2y : Nat} {x1 y1 x2 y2 : Rat} [h1x : CQ w (.agg #[.bool g1x, .slice a1x l1x c1x, .slice aa1x ll1x cc1x]) x1 k1x] [h1y : CQ w (.agg #[.bool g1y, .slice a1y l1y c1y, .slice aa1y ll1y cc1y]) y1 k1y] [h2x : CQ w (.agg #[.bool g2x, .slice a2x l2x c2x, .slice aa2x ll2x cc2x]) x2 k2x] [h2y : CQ w (.agg #[.bool g2y, .slice a2y l2y c2y, .slice aa2y ll2y cc2y]) y2 k2y] (b : k1x ≤ 9000 ∧ k1y ≤ 9000 ∧ k2x ≤ 9000 ∧ k2y ≤ 9000) :
    Calls Tryz.prog 81 #[.agg #[.bool g1x, .slice a1x l1x c1x, .slice aa1x ll1x cc1x, .bool g1y, .slice a1y l1y c1y, .slice aa1y ll1y cc1y], .agg #[.bool g2x, .slice a2x l2x c2x, .slice aa2x ll2x cc2x, .bool g2y, .slice a2y l2y c2y, .slice aa2y ll2y cc2y]] w (CQRet w (x1 * y2 - y1 * x2) (k1x + k1y + k2x + k2y + 12)) := by
  go_enter Tryz.func81, Tryz.ntmps81
  go_wp2_with fail
  refine rgn [w.heap.size + 1 + 1] [] fun hHeld => ?_
  refine tk 0 hHeld ?_
  refine tk 1 hHeld ?_
  refine tk 2 hHeld ?_
  refine tk 3 hHeld ?_
  refine tk 5 hHeld ?_
  refine tk 6 hHeld ?_
  refine tk 7 hHeld ?_
  refine tk 8 hHeld ?_
  refine st 4 fun K hK => ?_
  go_simp
  (with_reducible refine Calls.cQ (numTimesC (by omega)) ?_); intros
  refine hd hK ?_
  clear hHeld hK K
  intro hHeld
  refine st 9 fun K hK => ?_
  go_simp
  (with_reducible refine Calls.cQ (numTimesC (by omega)) ?_); intros
  refine hd hK ?_
  clear hHeld hK K
  intro hHeld
  refine st 10 fun K hK => ?_
  go_simp
  (with_reducible refine Calls.cQ (numSubC (by omega)) ?_); intros
  refine hd hK ?_
  clear hHeld hK K
  intro hHeld
  refine st 11 fun K hK => ?_
  go_simp
  refine hd hK ?_
  clear hHeld hK K
  intro hHeld
  refine dn ?_
  clear hHeld
  go_wp2
  refine ret_bx rfl Tryz.underlying45 rfl (by kernel_rfl) rfl rfl rfl ?_
  exact CQRet.fin rfl (by omega)

theorem refOrientC {w : World} {g1x g1y g2x g2y g3x g3y : Bool} {a1x aa1x a1y aa1y a2x aa2x a2y aa2y a3x aa3x a3y aa3y : Option Addr} {l1x c1x ll1x cc1x l1y c1y ll1y cc1y l2x c2x ll2x cc2x l2y c2y ll2y cc2y l3x c3x ll3x cc3x l3y c3y ll3y cc3y k1x k1y k2x k2y k3x k3y : Nat} {x1 y1 x2 y2 x3 y3 : Rat} [h1x : CQ w (.agg #[.bool g1x, .slice a1x l1x c1x, .slice aa1x ll1x cc1x]) x1 k1x] [h1y : CQ w (.agg #[.bool g1y, .slice a1y l1y c1y, .slice aa1y ll1y cc1y]) y1 k1y] [h2x : CQ w (.agg #[.bool g2x, .slice a2x l2x c2x, .slice aa2x ll2x cc2x]) x2 k2x] [h2y : CQ w (.agg #[.bool g2y, .slice a2y l2y c2y, .slice aa2y ll2y cc2y]) y2 k2y] [h3x : CQ w (.agg #[.bool g3x, .slice a3x l3x c3x, .slice aa3x ll3x cc3x]) x3 k3x] [h3y : CQ w (.agg #[.bool g3y, .slice a3y l3y c3y, .slice aa3y ll3y cc3y]) y3 k3y] (b : k1x ≤ 1000 ∧ k1y ≤ 1000 ∧ k2x ≤ 1000 ∧ k2y ≤ 1000 ∧ k3x ≤ 1000 ∧ k3y ≤ 1000) :
    Calls Tryz.prog 113 #[.agg #[.bool g1x, .slice a1x l1x c1x, .slice aa1x ll1x cc1x, .bool g1y, .slice a1y l1y c1y, .slice aa1y ll1y cc1y], .agg #[.bool g2x, .slice a2x l2x c2x, .slice aa2x ll2x cc2x, .bool g2y, .slice a2y l2y c2y, .slice aa2y ll2y cc2y], .agg #[.bool g3x, .slice a3x l3x c3x, .slice aa3x ll3x cc3x, .bool g3y, .slice a3y l3y c3y, .slice aa3y ll3y cc3y]] w (fun e w' => e = .returned (.int .i64 (orientR x1 y1 x2 y2 x3 y3)) ∧ Below w.heap.size w w') := by
  go_enter Tryz.func113, Tryz.ntmps113
  go_wp2_with fail
  refine rgn [] [] fun hHeld => ?_
  refine tk 0 hHeld ?_
  refine tk 1 hHeld ?_
  refine tk 3 hHeld ?_
  refine tk 4 hHeld ?_
  refine st 2 fun K hK => ?_
  go_simp
  (with_reducible refine Calls.cPQ (refPSubC (by omega)) ?_); intros
  refine hd hK ?_
  clear hHeld hK K
  intro hHeld
  refine st 5 fun K hK => ?_
  go_simp
  (with_reducible refine Calls.cPQ (refPSubC (by omega)) ?_); intros
  refine hd hK ?_
  clear hHeld hK K
  intro hHeld
  refine st 6 fun K hK => ?_
  go_simp
  (with_reducible refine Calls.cQ (refCrossC (by omega)) ?_); intros
  refine hd hK ?_
  clear hHeld hK K
  intro hHeld
  refine st 7 fun K hK => ?_
  go_simp
  (with_reducible refine Calls.cE (numSC) ?_); intros
  refine hd hK ?_
  clear hHeld hK K
  intro hHeld
  refine tk 8 hHeld ?_
  refine dn ?_
  clear hHeld
  go_wp2
  go_ret
  exact E.fin rfl

theorem gDotC {w : World} {n1x d1x n1y d1y n2x d2x n2y d2y : Int} {p1x p1y p2x p2y : Option Addr} {x1 y1 x2 y2 : Rat} {k1x k1y k2x k2y : Nat} [h1x : CF w (.agg #[.int .i64 n1x, .int .i64 d1x, .pointer p1x]) x1 k1x] [h1y : CF w (.agg #[.int .i64 n1y, .int .i64 d1y, .pointer p1y]) y1 k1y] [h2x : CF w (.agg #[.int .i64 n2x, .int .i64 d2x, .pointer p2x]) x2 k2x] [h2y : CF w (.agg #[.int .i64 n2y, .int .i64 d2y, .pointer p2y]) y2 k2y] (b : k1x ≤ 50000 ∧ k1y ≤ 50000 ∧ k2x ≤ 50000 ∧ k2y ≤ 50000) :
    Calls Tryz.prog 228 #[.agg #[.int .i64 n1x, .int .i64 d1x, .pointer p1x, .int .i64 n1y, .int .i64 d1y, .pointer p1y], .agg #[.int .i64 n2x, .int .i64 d2x, .pointer p2x, .int .i64 n2y, .int .i64 d2y, .pointer p2y]] w (CFRet w (x1 * x2 + y1 * y2) (k1x + k1y + k2x + k2y + 7)) := by
  go_enter Tryz.func228, Tryz.ntmps228
  go_wp2_with fail
  refine rgn [w.heap.size + 1 + 1] [] fun hHeld => ?_
  refine tk 0 hHeld ?_
  refine tk 1 hHeld ?_
  refine tk 2 hHeld ?_
  refine tk 3 hHeld ?_
  refine tk 5 hHeld ?_
  refine tk 6 hHeld ?_
  refine tk 7 hHeld ?_
  refine tk 8 hHeld ?_
  refine st 4 fun K hK => ?_
  go_simp
  (with_reducible refine Calls.cF (rMulC (by omega)) ?_); intros
  refine hd hK ?_
  clear hHeld hK K
  intro hHeld
  refine st 9 fun K hK => ?_
  go_simp
  (with_reducible refine Calls.cF (rMulC (by omega)) ?_); intros
  refine hd hK ?_
  clear hHeld hK K
  intro hHeld
  refine st 10 fun K hK => ?_
  go_simp
  (with_reducible refine Calls.cF (rAddC (by omega)) ?_); intros
  refine hd hK ?_
  clear hHeld hK K
  intro hHeld
  refine st 11 fun K hK => ?_
  go_simp
  refine hd hK ?_
  clear hHeld hK K
  intro hHeld
  refine dn ?_
  clear hHeld
  go_wp2
  refine ret_bx rfl Tryz.underlying147 rfl (by kernel_rfl) rfl rfl rfl ?_
  exact CFRet.fin rfl (by omega)

theorem samePC {w : World} {g1x g1y g2x g2y : Bool} {a1x aa1x a1y aa1y a2x aa2x a2y aa2y : Option Addr} {l1x c1x ll1x cc1x l1y c1y ll1y cc1y l2x c2x ll2x cc2x l2y c2y ll2y cc2y k1x k1y k2x k2y : Nat} {x1 y1 x2 y2 : Rat} [h1x : CA w (.agg #[.bool g1x, .slice a1x l1x c1x, .slice aa1x ll1x cc1x]) x1 k1x] [h1y : CA w (.agg #[.bool g1y, .slice a1y l1y c1y, .slice aa1y ll1y cc1y]) y1 k1y] [h2x : CA w (.agg #[.bool g2x, .slice a2x l2x c2x, .slice aa2x ll2x cc2x]) x2 k2x] [h2y : CA w (.agg #[.bool g2y, .slice a2y l2y c2y, .slice aa2y ll2y cc2y]) y2 k2y] (hx : x1 = x2) (hy : y1 = y2) :
    Calls Tryz.prog 20 #[.agg #[.bool g1x, .slice a1x l1x c1x, .slice aa1x ll1x cc1x, .bool g1y, .slice a1y l1y c1y, .slice aa1y ll1y cc1y], .agg #[.bool g2x, .slice a2x l2x c2x, .slice aa2x ll2x cc2x, .bool g2y, .slice a2y l2y c2y, .slice aa2y ll2y cc2y]] w (fun e w' => e = .returned (.bool true) ∧ Below w.heap.size w w') := by
  subst hx hy
  go_enter Tryz.func20, Tryz.ntmps20
  go_wp2_with (first
    | (go_at_call 39; (with_reducible refine Calls.cE (sameQC rfl) ?_); intros))
  go_ret
  exact E.fin rfl

theorem same04C {w : World} {g1x g1y g2x g2y : Bool} {a1x aa1x a1y aa1y a2x aa2x a2y aa2y : Option Addr} {l1x c1x ll1x cc1x l1y c1y ll1y cc1y l2x c2x ll2x cc2x l2y c2y ll2y cc2y k1x k1y k2x k2y : Nat} {x1 y1 x2 y2 : Rat} [h1x : CA w (.agg #[.bool g1x, .slice a1x l1x c1x, .slice aa1x ll1x cc1x]) x1 k1x] [h1y : CA w (.agg #[.bool g1y, .slice a1y l1y c1y, .slice aa1y ll1y cc1y]) y1 k1y] [h2x : CQ w (.agg #[.bool g2x, .slice a2x l2x c2x, .slice aa2x ll2x cc2x]) x2 k2x] [h2y : CQ w (.agg #[.bool g2y, .slice a2y l2y c2y, .slice aa2y ll2y cc2y]) y2 k2y] (b : k1x ≤ 90000 ∧ k1y ≤ 90000 ∧ k2x ≤ 90000 ∧ k2y ≤ 90000) (hx : x1 = x2) (hy : y1 = y2) :
    Calls Tryz.prog 15 #[.agg #[.bool g1x, .slice a1x l1x c1x, .slice aa1x ll1x cc1x, .bool g1y, .slice a1y l1y c1y, .slice aa1y ll1y cc1y], .agg #[.bool g2x, .slice a2x l2x c2x, .slice aa2x ll2x cc2x, .bool g2y, .slice a2y l2y c2y, .slice aa2y ll2y cc2y]] w (fun e w' => e = .returned (.bool true) ∧ Below w.heap.size w w') := by
  subst hx hy
  go_enter Tryz.func15, Tryz.ntmps15
  go_wp2_with fail
  refine rgn [] [] fun hHeld => ?_
  refine tk 0 hHeld ?_
  refine tk 1 hHeld ?_
  refine st 2 fun K hK => ?_
  go_simp
  (with_reducible refine Calls.cPA (toPC (by omega)) ?_); intros
  refine hd hK ?_
  clear hHeld hK K
  intro hHeld
  refine st 3 fun K hK => ?_
  go_simp
  (with_reducible refine Calls.cE (samePC rfl rfl) ?_); intros
  refine hd hK ?_
  clear hHeld hK K
  intro hHeld
  refine tk 4 hHeld ?_
  refine dn ?_
  clear hHeld
  go_wp2
  go_ret
  exact E.fin rfl

end Go.Proofs.YtdlnoeegboapkaaGreatDoor
