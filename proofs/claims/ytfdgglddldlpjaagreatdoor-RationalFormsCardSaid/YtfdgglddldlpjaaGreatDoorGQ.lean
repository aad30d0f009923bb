/-
  Texts of this claim, joined: Frac3, Inv, Laid, Rf.
-/
import Derived.Test.YtfdgglddldlpjaaGreatDoorGL
import Derived.Test.YtfdgglddldlpjaaGreatDoorGI
import Derived.Test.YtfdgglddldlpjaaGreatDoorRows
import Derived.Test.YtfdgglddldlpjaaGreatDoorGM
import Derived.LaidMore
import Derived.Stop.LaidTwo
import Derived.Stop.Joined
import Derived.Test.YtfdgglddldlpjaaGreatDoorGP
/- Package frac: contracts of the comparison, the quotient, the greatest common divisor. printed by a small program (mkfrac3.py). -/
namespace Go.Proofs.YtfdgglddldlpjaaGreatDoor
open Go.RowKit
set_option maxRecDepth 100000
set_option maxHeartbeats 40000000
set_option synthInstance.maxSize 100000
set_option synthInstance.maxHeartbeats 1000000

theorem rsgn_isgn (x : Rat) : rsgn x = isgn x.num := by
  unfold rsgn isgn
  repeat' split
  all_goals omega
theorem isgn0 {z : Int} : isgn z = 0 ↔ z = 0 := by
  unfold isgn
  repeat' split
  all_goals omega
theorem cmp_same {x y : Rat} (h : x.den = y.den) : isgn (x - y).num = if x.num < y.num then -1 else if x.num = y.num then 0 else 1 := by
  rw [← rsgn_isgn]; exact sub_same_den h
theorem inv_sgn {x : Rat} (h : x ≠ 0) : mkRat (sgn (decide (x.num < 0)) x.den) x.num.natAbs = x⁻¹ := by
  rw [rat_inv_mk x h]
  by_cases hn : x.num < 0 <;> simp [hn, sgn]
theorem Calls.cZn {P : Program} {f : FuncId} {args : Array Value} {w : World} {x : Int} {k : Nat} {K : Ending → World → Prop} (h : Calls P f args w (CZRet w x k))
    (hK : ∀ w' [Kp1 w w'] (g : Bool) (a : Option Addr) (l : Nat) (c : Nat) [CZ w' (.agg #[.bool g, .slice a l c]) x k] [CN w' (.slice a l c) x.natAbs k], K (.returned (.agg #[.bool g, .slice a l c])) w') : Calls P f args w K := by
  refine h.mono ?_
  rintro e w' ⟨g, a, l, c, rfl, hx, hb⟩
  exact @hK w' ⟨hb⟩ g a l c hx ⟨(zz_of hx).2⟩
theorem rZeroC {w : World} {n1 d1 : Int} {p1 : Option Addr} {x : Rat} {k1 : Nat} [h1 : CF w (.agg #[.int .i64 n1, .int .i64 d1, .pointer p1]) x k1]  :
    Calls Tryz.prog 244 #[.agg #[.int .i64 n1, .int .i64 d1, .pointer p1]] w (fun e w' => e = .returned (.bool (decide (x = 0))) ∧ Below w.heap.size w w') := by
  rcases CF.cases h1 with ⟨rfl, en1, ed1, bn1, bm1, bd1, be1, bk1⟩ | ⟨rfl, rfl, hq1, q1, G1, A1, L1, C1, AA1, LL1, CC1, rfl, hB1, hZ1, hN1⟩
  · by_cases hx : x = 0
    · have HE : Hid (decide (x = 0) = true) := by show _ = _; simp [hx]
      obtain rfl : n1 = 0 := by rw [← en1, hx]; rfl
      clear hx en1 ed1
      go_enter Tryz.func244, Tryz.ntmps244
      go_wp2
      go_ret
      exact E.fin (by rw [HE.out]; rfl)
    · have HE : Hid (decide (x = 0) = false) := by show _ = _; simp [hx]
      have hn : (n1 == 0) = false := by rw [beq_eq_false_iff_ne]; intro e; exact hx (Rat.num_eq_zero.1 (by rw [en1, e]))
      clear hx en1 ed1
      go_enter Tryz.func244, Tryz.ntmps244
      go_wp2
      go_ret
      exact E.fin (by rw [HE.out]; rfl)
  · have HE : Hid (decide (x = 0) = false) := by show _ = _; simp [hq1]
    go_enter Tryz.func244, Tryz.ntmps244
    go_wp2
    go_ret
    exact E.fin (by rw [HE.out]; rfl)

theorem rCmpC {w : World} {n1 d1 n2 d2 : Int} {p1 p2 : Option Addr} {x y : Rat} {k1 k2 : Nat} [h1 : CF w (.agg #[.int .i64 n1, .int .i64 d1, .pointer p1]) x k1] [h2 : CF w (.agg #[.int .i64 n2, .int .i64 d2, .pointer p2]) y k2] (b : k1 ≤ 100000 ∧ k2 ≤ 100000) :
    Calls Tryz.prog 89 #[.agg #[.int .i64 n1, .int .i64 d1, .pointer p1], .agg #[.int .i64 n2, .int .i64 d2, .pointer p2]] w (fun e w' => e = .returned (.int .i64 (isgn (x - y).num)) ∧ Below w.heap.size w w') := by
  rcases CF.cases h1 with ⟨rfl, en1, ed1, bn1, bm1, bd1, be1, bk1⟩ | ⟨rfl, rfl, hq1, q1, G1, A1, L1, C1, AA1, LL1, CC1, rfl, hB1, hZ1, hN1⟩
  · rcases CF.cases h2 with ⟨rfl, en2, ed2, bn2, bm2, bd2, be2, bk2⟩ | ⟨rfl, rfl, hq2, q2, G2, A2, L2, C2, AA2, LL2, CC2, rfl, hB2, hZ2, hN2⟩
    · by_cases hd : d1 = d2
      · obtain rfl : d1 = d2 := hd
        have HC := Lib.hid (cmp_same (x := x) (y := y) (by omega))
        rw [en1, en2] at HC
        clear en1 en2 ed1 ed2
        rcases Int.lt_trichotomy n1 n2 with h | h | h
        · have HE : Hid (isgn (x - y).num = -1) := by show _ = _; rw [HC.out, if_pos h]
          go_enter Tryz.func89, Tryz.ntmps89
          go_wp2
          go_ret
          exact E.fin (by rw [HE.out]; rfl)
        · subst h
          have HE : Hid (isgn (x - y).num = 0) := by show _ = _; rw [HC.out, if_neg (by omega), if_pos rfl]
          go_enter Tryz.func89, Tryz.ntmps89
          go_wp2
          go_ret
          exact E.fin (by rw [HE.out]; rfl)
        · have HE : Hid (isgn (x - y).num = 1) := by show _ = _; rw [HC.out, if_neg (by omega), if_neg (by omega)]
          go_enter Tryz.func89, Tryz.ntmps89
          go_wp2
          go_ret
          exact E.fin (by rw [HE.out]; rfl)
      · have q : (d1 == d2) = false := by rw [beq_eq_false_iff_ne]; exact hd
        clear en1 en2 ed1 ed2 hd
        go_enter Tryz.func89, Tryz.ntmps89
        go_wp2_with (first
    | (go_at_call 158; (with_reducible refine Calls.cF (rSubC (by omega)) ?_); intros)
    | (go_at_call 87; (with_reducible refine Calls.cE (rSignC (by omega)) ?_); intros))
        go_ret
        exact E.fin rfl
    · clear en1 ed1
      go_enter Tryz.func89, Tryz.ntmps89
      go_wp2_with (first
    | (go_at_call 158; (with_reducible refine Calls.cF (rSubC (by omega)) ?_); intros)
    | (go_at_call 87; (with_reducible refine Calls.cE (rSignC (by omega)) ?_); intros))
      go_ret
      exact E.fin rfl
  · go_enter Tryz.func89, Tryz.ntmps89
    go_wp2_with (first
    | (go_at_call 158; (with_reducible refine Calls.cF (rSubC (by omega)) ?_); intros)
    | (go_at_call 87; (with_reducible refine Calls.cE (rSignC (by omega)) ?_); intros))
    go_ret
    exact E.fin rfl

theorem rEqualC {w : World} {n1 d1 n2 d2 : Int} {p1 p2 : Option Addr} {x y : Rat} {k1 k2 : Nat} [h1 : CF w (.agg #[.int .i64 n1, .int .i64 d1, .pointer p1]) x k1] [h2 : CF w (.agg #[.int .i64 n2, .int .i64 d2, .pointer p2]) y k2] (b : k1 ≤ 100000 ∧ k2 ≤ 100000) :
    Calls Tryz.prog 190 #[.agg #[.int .i64 n1, .int .i64 d1, .pointer p1], .agg #[.int .i64 n2, .int .i64 d2, .pointer p2]] w (fun e w' => e = .returned (.bool (decide (x = y))) ∧ Below w.heap.size w w') := by
  by_cases hx : x = y
  · have HE : Hid (decide (x = y) = true) := by show _ = _; simp [hx]
    have e0 : isgn (x - y).num = 0 := by rw [isgn0, hx, Rat.num_eq_zero]; grind
    clear hx
    go_enter Tryz.func190, Tryz.ntmps190
    go_wp2_with (first
    | (go_at_call 89; (with_reducible refine Calls.cE (rCmpC (by omega)) ?_); intros))
    go_ret
    exact E.fin (by rw [HE.out]; rfl)
  · have HE : Hid (decide (x = y) = false) := by show _ = _; simp [hx]
    have e0 : (isgn (x - y).num == 0) = false := by
      rw [beq_eq_false_iff_ne]; intro e
      rw [isgn0, Rat.num_eq_zero] at e
      exact hx (by grind)
    clear hx
    go_enter Tryz.func190, Tryz.ntmps190
    go_wp2_with (first
    | (go_at_call 89; (with_reducible refine Calls.cE (rCmpC (by omega)) ?_); intros))
    go_ret
    exact E.fin (by rw [HE.out]; rfl)

theorem rInvC {w : World} {n1 d1 : Int} {p1 : Option Addr} {x : Rat} {k1 : Nat} [h1 : CF w (.agg #[.int .i64 n1, .int .i64 d1, .pointer p1]) x k1] (b : k1 ≤ 400000) :
    Calls Tryz.prog 288 #[.agg #[.int .i64 n1, .int .i64 d1, .pointer p1]] w (CFRet w x⁻¹ (k1 + 2)) := by
  rcases CF.cases h1 with ⟨rfl, en1, ed1, bn1, bm1, bd1, be1, bk1⟩ | ⟨rfl, rfl, hq1, q1, G1, A1, L1, C1, AA1, LL1, CC1, rfl, hB1, hZ1, hN1⟩
  · rcases Int.lt_trichotomy n1 0 with h | h | h
    · have HF : Hid (∀ W : World, CF W (.agg #[.int .i64 (-(d1 + 1)), .int .i64 (-n1 - 1), .pointer none]) x⁻¹ (k1 + 2)) := fun W => CF.small (by rw [inv_num, en1, ed1, Int.sign_eq_neg_one_of_neg h]; omega) (by rw [inv_den (by omega), en1]; omega) (by omega) (by omega) (by omega) (by omega)
      clear en1 ed1
      go_enter Tryz.func288, Tryz.ntmps288
      go_wp2
      refine ret_bx rfl Tryz.underlying121 rfl (by kernel_rfl) rfl rfl rfl ?_
      exact CFRet.fin (hx := HF.out _) rfl (by omega)
    · have HF : Hid (∀ W : World, CF W (.agg #[.int .i64 0, .int .i64 0, .pointer none]) x⁻¹ (k1 + 2)) := fun W => by
        rw [show x = 0 from Rat.num_eq_zero.1 (by omega), Rat.inv_zero]; exact CF.zero (by omega)
      subst h
      clear en1 ed1
      go_enter Tryz.func288, Tryz.ntmps288
      go_wp2
      refine ret_bx rfl Tryz.underlying121 rfl (by kernel_rfl) rfl rfl rfl ?_
      exact CFRet.fin (hx := HF.out _) rfl (by omega)
    · have HF : Hid (∀ W : World, CF W (.agg #[.int .i64 (d1 + 1), .int .i64 (n1 - 1), .pointer none]) x⁻¹ (k1 + 2)) := fun W => CF.small (by rw [inv_num, en1, ed1, Int.sign_eq_one_of_pos h]; omega) (by rw [inv_den (by omega), en1]; omega) (by omega) (by omega) (by omega) (by omega)
      clear en1 ed1
      go_enter Tryz.func288, Tryz.ntmps288
      go_wp2
      refine ret_bx rfl Tryz.underlying121 rfl (by kernel_rfl) rfl rfl rfl ?_
      exact CFRet.fin (hx := HF.out _) rfl (by omega)
  · have hz := zz_of hZ1
    have i1 : CN w (.slice A1 L1 C1) x.num.natAbs k1 := ⟨hz.2⟩
    have HE := Lib.hid (show mkRat (sgn G1 x.den) x.num.natAbs = x⁻¹ by rw [hz.1]; exact inv_sgn hq1)
    clear hz
    go_enter Tryz.func288, Tryz.ntmps288
    go_wp2_with fail
    refine rgn [w.heap.size + 1] [] fun hHeld => ?_
    refine tk 0 hHeld ?_
    refine tk 1 hHeld ?_
    refine tk 2 hHeld ?_
    refine tk 3 hHeld ?_
    refine tk 4 hHeld ?_
    refine tk 5 hHeld ?_
    refine tk 6 hHeld ?_
    refine tk 7 hHeld ?_
    refine tk 8 hHeld ?_
    refine tk 9 hHeld ?_
    refine tk 10 hHeld ?_
    refine tk 11 hHeld ?_
    refine tk 12 hHeld ?_
    refine tk 13 hHeld ?_
    refine tk 14 hHeld ?_
    refine tk 15 hHeld ?_
    refine tk 16 hHeld ?_
    refine tk 17 hHeld ?_
    refine st 18 fun K hK => ?_
    go_simp
    (with_reducible refine Calls.cF (reduceC (by omega)) ?_); intros
    refine hd hK ?_
    clear hHeld hK K
    intro hHeld
    refine st 19 fun K hK => ?_
    go_simp
    refine hd hK ?_
    clear hHeld hK K
    intro hHeld
    refine dn ?_
    clear hHeld
    go_wp2
    refine ret_bx rfl Tryz.underlying121 rfl (by kernel_rfl) rfl rfl rfl ?_
    exact CFRet.fin HE.out (by omega)

theorem rQuoC {w : World} {n1 d1 n2 d2 : Int} {p1 p2 : Option Addr} {x y : Rat} {k1 k2 : Nat} [h1 : CF w (.agg #[.int .i64 n1, .int .i64 d1, .pointer p1]) x k1] [h2 : CF w (.agg #[.int .i64 n2, .int .i64 d2, .pointer p2]) y k2] (b : k1 ≤ 100000 ∧ k2 ≤ 100000) :
    Calls Tryz.prog 245 #[.agg #[.int .i64 n1, .int .i64 d1, .pointer p1], .agg #[.int .i64 n2, .int .i64 d2, .pointer p2]] w (CFRet w (x / y) (k1 + k2 + 4)) := by
  have HE := Lib.hid (Rat.div_def x y)
  go_enter Tryz.func245, Tryz.ntmps245
  go_wp2_with fail
  refine rgn [w.heap.size + 1 + 1] [] fun hHeld => ?_
  refine tk 0 hHeld ?_
  refine tk 1 hHeld ?_
  refine st 2 fun K hK => ?_
  go_simp
  (with_reducible refine Calls.cF (rInvC (by omega)) ?_); intros
  refine hd hK ?_
  clear hHeld hK K
  intro hHeld
  refine st 3 fun K hK => ?_
  go_simp
  (with_reducible refine Calls.cF (rMulC (by omega)) ?_); intros
  refine hd hK ?_
  clear hHeld hK K
  intro hHeld
  refine st 4 fun K hK => ?_
  go_simp
  refine hd hK ?_
  clear hHeld hK K
  intro hHeld
  refine dn ?_
  clear hHeld
  go_wp2
  refine ret_bx rfl Tryz.underlying121 rfl (by kernel_rfl) rfl rfl rfl ?_
  exact CFRet.fin HE.out.symm (by omega)

end Go.Proofs.YtfdgglddldlpjaaGreatDoor

/- A region that draws its order, by an invariant: every operation of a list 'todo' is met once, whatever ran before it, and what an operation gives lasts. The number of goals is the number of operations, not of orders. -/
namespace Go.Proofs.YtfdgglddldlpjaaGreatDoor
open Go.RowKit
section
variable {P : Program} {ops : Array Oper} {Q : Exit → Act → World → Prop} {md : Region.Mode} {S : World → Prop} {T : Nat → Bool}
def dstOf (ops : Array Oper) (i : Nat) : Option Tmp := (ops[i]?).bind (·.dst)
def putAll (f : Nat → Value) : List (Nat × Tmp) → Act → Act
  | [], a => a
  | p :: r, a => putAll f r (a.put (some p.2) (f p.1))
def upd (f : Nat → Value) (i : Nat) (v : Value) : Nat → Value := fun j => if j = i then v else f j
theorem put_put {a : Act} {d : Option Tmp} {x v : Value} : (a.put d x).put d v = a.put d v := by
  cases d with
  | none => rfl
  | some d => simp [Act.put]
theorem put_comm {a : Act} {d e : Option Tmp} {x v : Value} (h : d ≠ e) : (a.put d x).put e v = (a.put e v).put d x := by
  cases d with
  | none => rfl
  | some d =>
    cases e with
    | none => rfl
    | some e =>
      have hde : d ≠ e := fun h' => h (by rw [h'])
      simp only [Act.put]
      rw [Array.setIfInBounds_comm _ _ hde]
theorem putAll_put {f : Nat → Value} {d : Tmp} {v : Value} : ∀ (r : List (Nat × Tmp)) (a : Act), (∀ p ∈ r, p.2 ≠ d) → (putAll f r a).put (some d) v = putAll f r (a.put (some d) v)
  | [], _, _ => rfl
  | p :: r, a, h => by
    show (putAll f r _).put _ v = putAll f r _
    rw [putAll_put r _ (fun k hk => h k (List.mem_cons_of_mem _ hk)), put_comm (fun e => h p (List.mem_cons_self ..) (Option.some.inj e))]
theorem putAll_congr {f g : Nat → Value} : ∀ (r : List (Nat × Tmp)) (a : Act), (∀ p ∈ r, f p.1 = g p.1) → putAll f r a = putAll g r a
  | [], _, _ => rfl
  | p :: r, a, h => by
    show putAll f r _ = putAll g r _
    rw [h p (List.mem_cons_self ..), putAll_congr r _ (fun k hk => h k (List.mem_cons_of_mem _ hk))]
theorem putAll_upd {f : Nat → Value} {i : Nat} {d : Tmp} {v : Value} : ∀ (r : List (Nat × Tmp)) (a : Act), (r.map (·.2)).Nodup → (r.map (·.1)).Nodup → (i, d) ∈ r → (putAll f r a).put (some d) v = putAll (upd f i v) r a
  | [], _, _, _, hi => nomatch hi
  | p :: r, a, hn, hm, hi => by
    rw [List.map_cons, List.nodup_cons] at hn hm
    obtain ⟨hj, hn⟩ := hn
    obtain ⟨hk, hm⟩ := hm
    rcases List.mem_cons.1 hi with e | hi'
    · subst e
      have hne : ∀ k ∈ r, k.2 ≠ d := fun k hk' e => hj (List.mem_map.2 ⟨k, hk', e⟩)
      show (putAll f r _).put _ v = putAll (upd f i v) r _
      rw [putAll_put r _ hne, put_put, show upd f i v i = v from if_pos rfl]
      exact putAll_congr r _ (fun k hk' => (if_neg (fun e => hk (List.mem_map.2 ⟨k, hk', e⟩))).symm)
    · have hij : p.1 ≠ i := fun e => hk (List.mem_map.2 ⟨_, hi', e.symm⟩)
      show (putAll f r (a.put _ (f p.1))).put _ v = putAll (upd f i v) r (a.put _ (upd f i v p.1))
      rw [show upd f i v p.1 = f p.1 from if_neg hij]
      exact putAll_upd r _ hn hm hi'
theorem put_self (a : Act) (d : Tmp) : a.put (some d) (a.tmps.getD d undef) = a := by
  obtain ⟨t, ds⟩ := a
  simp only [Act.put, Act.mk.injEq, and_true]
  apply Array.ext_getElem?
  intro i
  rw [Array.getElem?_setIfInBounds]
  split
  · rename_i h
    subst h
    split
    · rename_i h; simp [h]
    · rename_i h; simp [h]
  · rfl
theorem putAll_self {f : Nat → Value} (a : Act) : ∀ r : List (Nat × Tmp), (∀ p ∈ r, f p.1 = a.tmps.getD p.2 undef) → putAll f r a = a
  | [], _ => rfl
  | p :: r, h => by
    show putAll f r (a.put (some p.2) (f p.1)) = a
    rw [h p (List.mem_cons_self ..), put_self]
    exact putAll_self a r (fun q hq => h q (List.mem_cons_of_mem _ hq))
/-- The value in the slot of an operation. -/
def slotOf (a : Act) : List (Nat × Tmp) → Nat → Value
  | [], _ => undef
  | p :: r, i => if i = p.1 then a.tmps.getD p.2 undef else slotOf a r i
theorem slotOf_eq (a : Act) : ∀ r : List (Nat × Tmp), (r.map (·.1)).Nodup → ∀ p ∈ r, slotOf a r p.1 = a.tmps.getD p.2 undef
  | [], _, _, h => nomatch h
  | q :: r, hn, p, h => by
    rw [List.map_cons, List.nodup_cons] at hn
    rcases List.mem_cons.1 h with rfl | h
    · exact if_pos rfl
    · show (if p.1 = q.1 then _ else slotOf a r p.1) = _
      rw [if_neg (fun e => hn.1 (List.mem_map.2 ⟨p, h, e⟩))]
      exact slotOf_eq a r hn.2 p h
def lset : List Nat → Array Bool → Array Bool
  | [], L => L
  | i :: s, L => lset s (L.setIfInBounds i true)
theorem lset_get : ∀ (s : List Nat) (L : Array Bool) (j : Nat), (lset s L)[j]? = if j ∈ s ∧ j < L.size then some true else L[j]?
  | [], L, j => by simp [lset]
  | i :: s, L, j => by
    show (lset s _)[j]? = _
    rw [lset_get s, Array.getElem?_setIfInBounds, Array.size_setIfInBounds]
    by_cases hij : i = j
    · subst hij
      by_cases hl : i < L.size <;> simp [hl]
    · have hji : ¬ j = i := fun e => hij e.symm
      simp [hij, hji]
theorem lset_step (todo : List Nat) (g : Nat → Bool) {i : Nat} (hi : i ∈ todo) (L : Array Bool) : (lset (todo.filter g) L).setIfInBounds i true = lset (todo.filter (fun j => g j || j == i)) L := by
  apply Array.ext_getElem?
  intro j
  have hs : ∀ (s : List Nat) (L : Array Bool), (lset s L).size = L.size := by
    intro s
    induction s with
    | nil => intro L; rfl
    | cons i s ih => intro L; show (lset s _).size = _; rw [ih, Array.size_setIfInBounds]
  rw [Array.getElem?_setIfInBounds, lset_get, lset_get, hs]
  simp only [List.mem_filter, Bool.or_eq_true, beq_iff_eq]
  by_cases hij : i = j
  · subst hij
    by_cases hl : i < L.size <;> simp [hl, hi]
  · have hji : ¬ j = i := fun e => hij e.symm
    simp [hij, hji]
def subs : List Nat → List (List Nat)
  | [] => [[]]
  | i :: r => (subs r).flatMap fun s => [s, i :: s]
theorem filter_subs (g : Nat → Bool) : ∀ l, l.filter g ∈ subs l
  | [] => List.mem_cons_self ..
  | i :: r => by
    rw [List.filter_cons]
    refine List.mem_flatMap.2 ⟨_, filter_subs g r, ?_⟩
    split
    · exact List.mem_cons_of_mem _ (List.mem_cons_self ..)
    · exact List.mem_cons_self ..
/-- Whatever part of 'todo' has run: one of the rest may come up, and nothing else; what it reads has run. -/
def chkS (md : Region.Mode) (ops : Array Oper) (L0 : Array Bool) (todo : List Nat) (pre : Nat → List Nat) : Bool :=
  (subs todo).all fun s => !(s.all fun i => (pre i).all fun j => s.contains j) || s == todo || (!(Region.ready md ops (lset s L0)).isEmpty && (Region.ready md ops (lset s L0)).all fun i => todo.contains i && !s.contains i && (pre i).all fun j => s.contains j)
theorem count_step {g : Nat → Bool} {i : Nat} (hg : g i = false) : ∀ l : List Nat, l.Nodup → i ∈ l → (l.filter fun j => !g j).length = (l.filter fun j => !(g j || j == i)).length + 1
  | [], _, hi => nomatch hi
  | j :: r, hn, hi => by
    rw [List.nodup_cons] at hn
    by_cases hij : j = i
    · subst hij
      have h0 : (r.filter fun k => !g k) = r.filter fun k => !(g k || k == j) := by
        apply List.filter_congr
        intro k hk
        have : k ≠ j := fun e => hn.1 (e ▸ hk)
        simp [this]
      simp [hg, h0]
    · have := count_step hg r hn.2 ((List.mem_cons.1 hi).resolve_left (fun e => hij e.symm))
      simp only [List.filter_cons, Bool.or_false, show (j == i) = false by simpa using hij]
      split <;> simp [this]
/-- What lasts while memory grows. -/
class Last (φ : Value → World → Prop) : Prop where out : ∀ v W W', Below W.heap.size W W' → φ v W → φ v W'
def phi : List (Value → World → Prop) → List Nat → Nat → Value → World → Prop
  | φ :: r, j :: s, i => if i = j then φ else phi r s i
  | _, _, _ => fun _ _ => True
class Lasts (l : List (Value → World → Prop)) : Prop where out : ∀ (s : List Nat) (i : Nat), Last (phi l s i)
instance Lasts.nil : Lasts [] := ⟨fun _ _ => ⟨fun _ _ _ _ _ => trivial⟩⟩
instance Lasts.cons {φ : Value → World → Prop} {l : List (Value → World → Prop)} [h1 : Last φ] [h2 : Lasts l] : Lasts (φ :: l) := ⟨fun s i => by
  cases s with
  | nil => exact ⟨fun _ _ _ _ _ => trivial⟩
  | cons j s =>
    show Last (if i = j then φ else phi l s i)
    split
    · exact h1
    · exact h2.out s i⟩
/-- A pointer to a block that was made after W; to one that is there in W. -/
def NewP (v : Value) (W : World) : Prop := ∃ b, v = .pointer (some ⟨b, 0, none⟩) ∧ W.heap.size ≤ b
def OldP (v : Value) (W : World) : Prop := ∃ b, v = .pointer (some ⟨b, 0, none⟩) ∧ b < W.heap.size
theorem newP_ne {u v : Value} {W : World} (h1 : NewP v W) (h2 : OldP u W) : u ≠ v := by
  obtain ⟨b, rfl, hb⟩ := h1
  obtain ⟨c, rfl, hc⟩ := h2
  intro e
  simp only [Value.pointer.injEq, Option.some.injEq, Addr.mk.injEq, and_true] at e
  omega
theorem ptr_ne {b c : Nat} (h : (Value.pointer (some ⟨b, 0, none⟩)) ≠ .pointer (some ⟨c, 0, none⟩)) : NeN b c := ⟨fun e => h (by rw [e])⟩
theorem wpAnyT_inv (dl : List (Nat × Tmp)) (pre : Nat → List Nat) (φs : List (Value → World → Prop)) [hΦ : Lasts φs] (A : List Nat) {L0 : Array Bool} {a0 : Act} {w : World} {F : Nat} (m : Nat) (hF : F = m + dl.length)
    (hchk : chkS md ops L0 (dl.map (·.1)) pre = true) (hd : (dl.map (·.2)).Nodup) (hnd : (dl.map (·.1)).Nodup) (hds : (dl.all fun p => dstOf ops p.1 == some p.2) = true) (hA : ∀ i ∈ A, ∀ v W, phi φs (dl.map (·.1)) i v W → OldP v W) (hSk : ∀ W W', Below W.heap.size W W' → S W → S W') (hS : S w)
    (hop : ∀ i ∈ dl.map (·.1), ∀ (f : Nat → Value) (W : World), S W → Below w.heap.size w W → (∀ j ∈ pre i, phi φs (dl.map (·.1)) j (f j) W) → ∃ o, ops[i]? = some o ∧ ∀ K' : Act → World → Prop,
      Shut (∀ a' v W', a' = (putAll f dl a0).put o.dst v → Below W.heap.size W W' → phi φs (dl.map (·.1)) i v W' → (i ∈ A → NewP v W) → K' a' W') →
      if Region.wanted o (yielded ops (putAll f dl a0).tmps) = true then Oper.wp P o (putAll f dl a0) W K' Q else K' ((putAll f dl a0).put o.dst undef) W)
    (hend : ∀ (f : Nat → Value) (W : World), S W → Below w.heap.size w W → (∀ j ∈ dl.map (·.1), phi φs (dl.map (·.1)) j (f j) W) → (∀ j k, j ∈ A → k ∈ A → j ∈ dl.map (·.1) → k ∈ dl.map (·.1) → j ≠ k → f j ≠ f k) → wpAnyT P md ops Q S T m (lset (dl.map (·.1)) L0) (putAll f dl a0) W) :
    wpAnyT P md ops Q S T F L0 a0 w := by
  subst hF
  have hlen : dl.length = (dl.map (·.1)).length := by rw [List.length_map]
  rw [hlen]
  have hds' : ∀ i ∈ dl.map (·.1), ∃ d, (i, d) ∈ dl ∧ dstOf ops i = some d := fun i hi => by
    obtain ⟨p, hp, rfl⟩ := List.mem_map.1 hi
    exact ⟨p.2, hp, by simpa using List.all_eq_true.1 hds p hp⟩
  generalize hT : dl.map (·.1) = todo at *
  have key : ∀ (n : Nat) (g : Nat → Bool) (f : Nat → Value) (W : World), (todo.filter fun j => !g j).length = n → S W → Below w.heap.size w W → (∀ j ∈ todo, g j = true → phi φs todo j (f j) W) → (∀ j k, j ∈ A → k ∈ A → j ∈ todo → k ∈ todo → g j = true → g k = true → j ≠ k → f j ≠ f k) → (∀ j ∈ todo, g j = true → ∀ k ∈ pre j, k ∈ todo ∧ g k = true) →
      wpAnyT P md ops Q S T (m + n) (lset (todo.filter g) L0) (putAll f dl a0) W := by
    intro n
    induction n with
    | zero =>
      intro g f W hn hSW hB hf hne _
      have hall : ∀ j ∈ todo, g j = true := fun j hj => by
        have h0 := List.eq_nil_of_length_eq_zero hn
        have := List.filter_eq_nil_iff.1 h0 j hj
        simpa using this
      rw [List.filter_eq_self.2 hall]
      exact hend f W hSW hB (fun j hj => hf j hj (hall j hj)) (fun j k ha hb hj hk => hne j k ha hb hj hk (hall j hj) (hall k hk))
    | succ n ih =>
      intro g f W hn hSW hB hf hnf hcl
      have hs := List.all_eq_true.1 hchk _ (filter_subs g todo)
      have hne : ((todo.filter g == todo) : Bool) = false := by
        rw [beq_eq_false_iff_ne]
        intro e
        have hall := List.filter_eq_self.1 e
        have : (todo.filter fun j => !g j) = [] := List.filter_eq_nil_iff.2 (fun j hj => by simp [hall j hj])
        rw [this] at hn
        simp at hn
      have hcl2 : ((todo.filter g).all fun i => (pre i).all fun j => (todo.filter g).contains j) = true := by
        simp only [List.all_eq_true, List.contains_iff_mem, List.mem_filter]
        exact fun i hi j hj => hcl i hi.1 hi.2 j hj
      rw [hne, hcl2, Bool.not_true, Bool.false_or, Bool.false_or, Bool.and_eq_true] at hs
      obtain ⟨hr, hs⟩ := hs
      refine ⟨fun h0 => (by rw [h0] at hr; simp at hr), fun i hi => ?_⟩
      have hi2 := List.all_eq_true.1 hs i hi
      simp only [Bool.and_eq_true, List.contains_iff_mem, Bool.not_eq_true', List.all_eq_true] at hi2
      obtain ⟨⟨hit, his⟩, hp⟩ := hi2
      have hgi : g i = false := by
        cases hg : g i with
        | false => rfl
        | true =>
          have : (todo.filter g).contains i = true := List.contains_iff_mem.2 (List.mem_filter.2 ⟨hit, hg⟩)
          rw [this] at his
          cases his
      obtain ⟨o, ho, H⟩ := hop i hit f W hSW hB (fun j hj => by
        have := List.mem_filter.1 (hp j hj)
        exact hf j this.1 this.2)
      obtain ⟨d, hdm, hdo⟩ := hds' i hit
      refine wpOp_step ho (fun K' hK => H K' (fun a' v W' ha hb hv hnw => hK _ _ ⟨fun _ => hSk _ _ hb hSW, ?_⟩))
      have hdst : o.dst = some d := by rw [← hdo]; simp [dstOf, ho]
      rw [ha, lset_step todo g hit, hdst, putAll_upd dl a0 hd (hT ▸ hnd) hdm]
      refine ih _ _ W' (by have := count_step hgi todo hnd hit; omega) (hSk _ _ hb hSW) (blw_trans hB hb) (fun j hj hgj => ?_) (fun j k haj hak hj hk hgj hgk hjk => ?_) (fun j hj hgj k hk => ?_)
      · by_cases hji : j = i
        · subst hji
          rw [show upd f j v j = v from if_pos rfl]
          exact hv
        · rw [show upd f i v j = f j from if_neg hji]
          refine (hΦ.out todo j).out _ _ _ hb (hf j hj ?_)
          simpa [hji] using hgj
      · by_cases hji : j = i
        · have hki : ¬ k = i := fun e => hjk (hji.trans e.symm)
          have hgk' : g k = true := by simpa [hki] using hgk
          rw [show upd f i v k = f k from if_neg hki, show upd f i v j = v from if_pos hji]
          exact (newP_ne (hnw (hji ▸ haj)) (hA k hak _ _ (hf k hk hgk'))).symm
        · have hgj' : g j = true := by simpa [hji] using hgj
          rw [show upd f i v j = f j from if_neg hji]
          by_cases hki : k = i
          · rw [show upd f i v k = v from if_pos hki]
            exact newP_ne (hnw (hki ▸ hak)) (hA j haj _ _ (hf j hj hgj'))
          · rw [show upd f i v k = f k from if_neg hki]
            exact hnf j k haj hak hj hk hgj' (by simpa [hki] using hgk) hjk
      · by_cases hji : j = i
        · subst hji
          have := List.mem_filter.1 (hp k hk)
          exact ⟨this.1, by simp [this.2]⟩
        · have := hcl j hj (by simpa [hji] using hgj) k hk
          exact ⟨this.1, by simp [this.2]⟩
  have h0 := key todo.length (fun _ => false) (slotOf a0 dl) w (by simp) hS (Below.refl _ _) (fun _ _ h => nomatch h) (fun _ _ _ _ _ _ h => nomatch h) (fun _ _ h => nomatch h)
  rw [putAll_self a0 dl (slotOf_eq a0 dl (hT ▸ hnd))] at h0
  have hnil : todo.filter (fun _ => false) = [] := List.filter_eq_nil_iff.2 (fun _ _ => by simp)
  rw [hnil] at h0
  exact h0
theorem Ex.below {w W W' : World} {L : List Nat} (h : Below W.heap.size W W') (e : Ex w L W) : Ex w L W' :=
  have := Kp1.mk h
  inferInstance
end
/-- Kinds of what lasts. -/
def phiN (n k : Nat) (v : Value) (W : World) : Prop := ∃ a l c, v = .slice a l c ∧ CN W (.slice a l c) n k
def phiR (n k : Nat) (v : Value) (W : World) : Prop := ∃ a l c, v = .slice a l c ∧ CR W (.slice a l c) n k
/-- A box of type t with the cells l that was made after w0. -/
def phiB (w0 : World) (t : TypeId) (l : List Value) (v : Value) (W : World) : Prop := ∃ b, v = .pointer (some ⟨b, 0, none⟩) ∧ Bx W b t l ∧ Ge w0 b ∧ Gg w0 b
instance {n k : Nat} : Last (phiN n k) := ⟨fun _ _ _ hb ⟨a, l, c, e, _⟩ => have := Kp1.mk hb; ⟨a, l, c, e, inferInstance⟩⟩
instance {n k : Nat} : Last (phiR n k) := ⟨fun _ _ _ hb ⟨a, l, c, e, _⟩ => have := Kp1.mk hb; ⟨a, l, c, e, inferInstance⟩⟩
instance {w0 : World} {t : TypeId} {l : List Value} : Last (phiB w0 t l) := ⟨fun _ _ _ hb ⟨b, e, _, h1, h2⟩ => have := Kp1.mk hb; ⟨b, e, inferInstance, h1, h2⟩⟩
def phiV (v0 v : Value) (_ : World) : Prop := v = v0
instance {v0 : Value} : Last (phiV v0) := ⟨fun _ _ _ _ e => e⟩
theorem phiN.fin {n n' k k' : Nat} {a : Option Addr} {l c : Nat} {W : World} [h : CN W (.slice a l c) n' k'] (e : n' = n) (b : k' ≤ k) : phiN n k (.slice a l c) W := ⟨a, l, c, rfl, by subst e; exact ⟨h.out.mono b⟩⟩
theorem phiR.fin {n n' k k' : Nat} {a : Option Addr} {l c : Nat} {W : World} [h : CR W (.slice a l c) n' k'] (e : n' = n) (b : k' ≤ k) : phiR n k (.slice a l c) W := ⟨a, l, c, rfl, by subst e; exact ⟨h.out.mono b⟩⟩
theorem phiB.fin {w0 W : World} {t : TypeId} {l : List Value} {b : Nat} [h : Bx W b t l] [h1 : Ge w0 b] [h2 : Gg w0 b] : phiB w0 t l (.pointer (some ⟨b, 0, none⟩)) W := ⟨b, rfl, h, h1, h2⟩
theorem phiB.old {w0 W : World} {t : TypeId} {l : List Value} {v : Value} (h : phiB w0 t l v W) : OldP v W := by
  obtain ⟨b, e, h, _, _⟩ := h
  exact ⟨b, e, h.lt⟩
end Go.Proofs.YtfdgglddldlpjaaGreatDoor

/- What the condition of the rows of layer 3 gives the walks: the three sentinels, each in its variable, and that two of them are different. -/
namespace Go.Proofs.YtfdgglddldlpjaaGreatDoor
open Go Go.RowKit

theorem Tryz.gS : Tryz.prog.globalNamed "bspregion/api.ErrSyntax" = some 0 := by kernel_rfl
theorem Tryz.gL : Tryz.prog.globalNamed "bspregion/api.ErrLimit" = some 2 := by kernel_rfl
theorem Tryz.gR : Tryz.prog.globalNamed "bspregion/api.ErrRange" = some 1 := by kernel_rfl
theorem Tryz.gSt : (Tryz.prog.globals[0]?).map (·.type) = some 57 := by kernel_rfl
theorem Tryz.gLt : (Tryz.prog.globals[2]?).map (·.type) = some 57 := by kernel_rfl
theorem Tryz.gRt : (Tryz.prog.globals[1]?).map (·.type) = some 57 := by kernel_rfl
theorem Tryz.cellsEs : Tryz.prog.cellsOf 396 = 1 := by kernel_rfl
theorem Tryz.cellsStr : Tryz.prog.cellsOf 9 = 1 := by kernel_rfl
theorem Tryz.star : "*" ++ "errors.errorString" = "*errors.errorString" := by decide
theorem Tryz.rowEs (u : TypeId) (h : Tryz.prog.typeName? 3 u = some "*errors.errorString") : u = 373 :=
  typeName_ptr_named (nm := "errors.errorString") (by rw [Tryz.star]; kernel_rfl) (by kernel_rfl) (by decide) u (by rw [Tryz.star]; exact h)
theorem snt_of_var {W : World} {n : String} {g : Nat} {a : Addr} (hg : Tryz.prog.globalNamed n = some g) (hv : W.var? Tryz.prog n = some #[.iface 373 (.pointer (some a))]) (hr : ∃ c t, W.heap[a.block]? = some (.cells c t (0, 0))) : Snt W g a W :=
  Snt.mk1 (by simpa using World.var?_cell hg hv 0) hr
/-- The list of the rows of layers 3 and 4. -/
def laid3 : List (String × DataW Unit) := [("bspregion/api.ErrSyntax", Rows.laid_bspregion_api_ErrSyntax), ("bspregion/api.ErrLimit", Rows.laid_bspregion_api_ErrLimit), ("bspregion/api.ErrRange", Rows.laid_bspregion_api_ErrRange)]
theorem sents3 {W : World} (hL : laidMetH Tryz.prog laid3 W) : ∃ a0 a1 a2, Snt W 0 a0 W ∧ Snt W 2 a1 W ∧ Snt W 1 a2 W ∧ a1 ≠ a0 := by
  rw [MakeChecks.laidMetH_plain _ _ _ (by kernel_rfl)] at hL
  obtain ⟨a0, a1, s0, s1, c0, c1, t0, t1, hv0, hv1, _, _, _, _, _, _, hne, hb0, hb1⟩ := laid_sentinels2 hL Tryz.gS Tryz.gSt Tryz.gL Tryz.gLt Tryz.underlying57 Tryz.rowEs Tryz.underlying373 Tryz.underlying396 rfl rfl Tryz.underlying9 Tryz.cellsEs Tryz.cellsStr
  obtain ⟨b0, b1, s0', s1', c0', c1', t0', t1', hv0', hv1', _, _, _, _, _, _, _, _, hb1'⟩ := laid_sentinels2 hL.tail Tryz.gL Tryz.gLt Tryz.gR Tryz.gRt Tryz.underlying57 Tryz.rowEs Tryz.underlying373 Tryz.underlying396 rfl rfl Tryz.underlying9 Tryz.cellsEs Tryz.cellsStr
  exact ⟨a0, a1, b1, snt_of_var Tryz.gS hv0 ⟨_, _, hb0⟩, snt_of_var Tryz.gL hv1 ⟨_, _, hb1⟩, snt_of_var Tryz.gR hv1' ⟨_, _, hb1'⟩, fun e => hne e.symm⟩
end Go.Proofs.YtfdgglddldlpjaaGreatDoor

/- Rational numbers: New, Norm, Sign, Cmp of package rational; whether rational arguments are short. printed by a small program (mkrf.py). -/
namespace Go.Proofs.YtfdgglddldlpjaaGreatDoor
open Go.RowKit
set_option maxRecDepth 100000
set_option maxHeartbeats 40000000
set_option synthInstance.maxSize 100000
set_option synthInstance.maxHeartbeats 1000000
set_option linter.unusedVariables false
set_option linter.unusedSimpArgs false

theorem intSignV {w : World} {v : Int} {g1 : Bool} {a1 : Option Addr} {l1 c1 k1 : Nat} {x : Int} [h1 : CI w (.agg #[.bool g1, .slice a1 l1 c1]) x k1] (b : k1 ≤ 900000) (hv : Hid (isgn x = v)) :
    Calls Tryz.prog 76 #[.agg #[.bool g1, .slice a1 l1 c1]] w (fun e w' => e = .returned (.int .i64 v) ∧ Below w.heap.size w w') := by
  rw [← hv.out]; exact intSignC b
theorem new_neg {p : Int} {n : Nat} : mkRat (-p) n = (p : Rat) / ((-(n : Int) : Int) : Rat) := by
  have h : ((n : Int) : Rat) = (n : Rat) := rfl
  by_cases hn : n = 0
  · subst hn; simp [Rat.div_def]
  · have hq : (n : Rat) ≠ 0 := by exact_mod_cast hn
    rw [Rat.mkRat_eq_div, Rat.intCast_neg, Rat.intCast_neg, h]
    grind
theorem new_pos {p : Int} {n : Nat} : mkRat p n = (p : Rat) / (((n : Int) : Int) : Rat) := by
  rw [Rat.mkRat_eq_div]; rfl
instance CZ.zz {W : World} : CZ W (.agg #[.bool false, .slice none 0 0]) 0 0 := ⟨⟨_, _, _, _, rfl, rfl, Nn.nil W 0⟩⟩
instance CQ.zz {W : World} : CQ W (.agg #[.bool false, .slice none 0 0, .slice none 0 0]) 0 0 := CQ.mk' (h1 := CZ.zz) (h2 := CN.nil) rfl rfl (Nat.le_refl _) (Nat.le_refl _)
/-- A value of the kind A and a Boolean are returned; nothing that was there has changed. -/
def ABRet (w : World) (x : Rat) (v : Bool) (k : Nat) (e : Ending) (w' : World) : Prop := ∃ g a l c aa ll cc, e = .returned (.tuple #[.agg #[.bool g, .slice a l c, .slice aa ll cc], .bool v]) ∧ CA w' (.agg #[.bool g, .slice a l c, .slice aa ll cc]) x k ∧ Below w.heap.size w w'
theorem Calls.cAB {P : Program} {f : FuncId} {args : Array Value} {w : World} {x : Rat} {v : Bool} {k : Nat} {K : Ending → World → Prop} (h : Calls P f args w (ABRet w x v k))
    (hK : ∀ w' [Kp1 w w'] (g : Bool) (a : Option Addr) (l : Nat) (c : Nat) (aa : Option Addr) (ll : Nat) (cc : Nat) [CA w' (.agg #[.bool g, .slice a l c, .slice aa ll cc]) x k], K (.returned (.tuple #[.agg #[.bool g, .slice a l c, .slice aa ll cc], .bool v])) w') : Calls P f args w K := by
  refine h.mono ?_
  rintro e w' ⟨g, a, l, c, aa, ll, cc, rfl, hx, hb⟩
  exact @hK w' ⟨hb⟩ g a l c aa ll cc hx
theorem ABRet.fin {w w' : World} {v : Bool} {g : Bool} {a : Option Addr} {l : Nat} {c : Nat} {aa : Option Addr} {ll : Nat} {cc : Nat} {x x' : Rat} {kx : Nat} {k : Nat} [b : Kp w w'] [hx : CA w' (.agg #[.bool g, .slice a l c, .slice aa ll cc]) x kx] (ex : x = x') (mx : kx ≤ k) : ABRet w x' v k (.returned (.tuple #[.agg #[.bool g, .slice a l c, .slice aa ll cc], .bool v])) w' :=
  ⟨_, _, _, _, _, _, _, rfl, hx.cast ex mx, b.out⟩
theorem ratNewC {w : World} {v : Bool} {g1 g2 : Bool} {a1 a2 : Option Addr} {l1 c1 l2 c2 k1 k2 : Nat} {p q : Int} [h1 : CI w (.agg #[.bool g1, .slice a1 l1 c1]) p k1] [h2 : CI w (.agg #[.bool g2, .slice a2 l2 c2]) q k2] (b : k1 ≤ 600000 ∧ k2 ≤ 600000) (hv : Hid (decide (q ≠ 0) = v)) :
    Calls Tryz.prog 14 #[.agg #[.bool g1, .slice a1 l1 c1], .agg #[.bool g2, .slice a2 l2 c2]] w (ABRet w ((p : Rat) / (q : Rat)) v (max k1 k2 + 10)) := by
  obtain ⟨n, r2, rfl⟩ := zi_of h2
  have i2 : CR w (.slice a2 l2 c2) n k2 := ⟨r2⟩
  clear r2
  rcases isgn_cases (sgn g2 n) with ⟨hq, e⟩ | ⟨hq, e⟩ | ⟨hq, e⟩
  · obtain rfl : true = v := by rw [← hv.out]; exact (decide_eq_true (by omega)).symm
    have HS := Lib.hid e
    have HE : Hid (mkRat (-p) n = (p : Rat) / ((sgn g2 n : Int) : Rat)) := by show _ = _; rw [sgn_neg hq]; exact new_neg
    clear hq e hv
    go_enter Tryz.func14, Tryz.ntmps14
    go_wp2_with (first
      | (go_at_call 76; (with_reducible refine Calls.cE (intSignV (by omega) HS) ?_); intros)
      | (go_at_call 77; (with_reducible refine Calls.cZ (intNegC (by omega)) ?_); intros)
      | (go_at_call 78; (with_reducible refine Calls.cF (ofC (by omega)) ?_); intros)
      | (go_at_call 79; (with_reducible refine Calls.cA (rApiC (by omega)) ?_); intros))
    refine ret_bt rfl Tryz.underlying27 rfl (by kernel_rfl) rfl rfl rfl ?_
    exact ABRet.fin HE.out (by omega)
  · obtain rfl : false = v := by rw [← hv.out]; exact (decide_eq_false (by omega)).symm
    have HS := Lib.hid e
    have HE : Hid (mkRat p n = (p : Rat) / ((sgn g2 n : Int) : Rat)) := by
      show _ = _
      rw [hq, sgn_zero hq]
      show mkRat p 0 = (p : Rat) / 0
      rw [Rat.mkRat_zero, Rat.div_def, Rat.inv_zero, Rat.mul_zero]
    clear hq e hv
    go_enter Tryz.func14, Tryz.ntmps14
    go_wp2_with (first
      | (go_at_call 76; (with_reducible refine Calls.cE (intSignV (by omega) HS) ?_); intros)
      | (go_at_call 77; (with_reducible refine Calls.cZ (intNegC (by omega)) ?_); intros)
      | (go_at_call 78; (with_reducible refine Calls.cF (ofC (by omega)) ?_); intros)
      | (go_at_call 79; (with_reducible refine Calls.cA (rApiC (by omega)) ?_); intros))
    refine ret_bt rfl Tryz.underlying27 rfl (by kernel_rfl) rfl rfl rfl ?_
    exact ABRet.fin HE.out (by omega)
  · obtain rfl : true = v := by rw [← hv.out]; exact (decide_eq_true (by omega)).symm
    have HS := Lib.hid e
    have HE : Hid (mkRat p n = (p : Rat) / ((sgn g2 n : Int) : Rat)) := by show _ = _; rw [sgn_pos hq]; exact new_pos
    clear hq e hv
    go_enter Tryz.func14, Tryz.ntmps14
    go_wp2_with (first
      | (go_at_call 76; (with_reducible refine Calls.cE (intSignV (by omega) HS) ?_); intros)
      | (go_at_call 77; (with_reducible refine Calls.cZ (intNegC (by omega)) ?_); intros)
      | (go_at_call 78; (with_reducible refine Calls.cF (ofC (by omega)) ?_); intros)
      | (go_at_call 79; (with_reducible refine Calls.cA (rApiC (by omega)) ?_); intros))
    refine ret_bt rfl Tryz.underlying27 rfl (by kernel_rfl) rfl rfl rfl ?_
    exact ABRet.fin HE.out (by omega)

theorem ratNormC {w : World} {g1 : Bool} {a1 aa1 : Option Addr} {l1 c1 ll1 cc1 k1 : Nat} {x : Rat} [h1 : CW w (.agg #[.bool g1, .slice a1 l1 c1, .slice aa1 ll1 cc1]) x k1] (b : k1 ≤ 600000) :
    Calls Tryz.prog 18 #[.agg #[.bool g1, .slice a1 l1 c1, .slice aa1 ll1 cc1]] w (CARet w (x) (k1 + 2)) := by
  go_enter Tryz.func18, Tryz.ntmps18
  go_wp2_with (first
    | (go_at_call 78; (with_reducible refine Calls.cF (ofC (by omega)) ?_); intros)
    | (go_at_call 79; (with_reducible refine Calls.cA (rApiC (by omega)) ?_); intros))
  refine ret_bx rfl Tryz.underlying27 rfl (by kernel_rfl) rfl rfl rfl ?_
  exact CARet.fin rfl (by omega)

theorem ratFromIntC {w : World} {n : Int} (b : -9223372036854775808 ≤ n ∧ n < 9223372036854775808) : Calls Tryz.prog 21 #[.int .i64 n] w (CARet w (n : Rat) 4) := by
  go_enter Tryz.func21, Tryz.ntmps21
  go_wp2_with (first
    | (go_at_call 85; (with_reducible refine Calls.cF (fracIntC (by omega)) ?_); intros)
    | (go_at_call 79; (with_reducible refine Calls.cA (rApiC (by omega)) ?_); intros))
  refine ret_bx rfl Tryz.underlying27 rfl (by kernel_rfl) rfl rfl rfl ?_
  exact CARet.fin rfl (by omega)

theorem ratSignV {w : World} {v : Int} {g1 : Bool} {a1 aa1 : Option Addr} {l1 c1 ll1 cc1 k1 : Nat} {x : Rat} [h1 : CW w (.agg #[.bool g1, .slice a1 l1 c1, .slice aa1 ll1 cc1]) x k1] (b : k1 ≤ 600000) (hv : Hid (isgn x.num = v)) :
    Calls Tryz.prog 23 #[.agg #[.bool g1, .slice a1 l1 c1, .slice aa1 ll1 cc1]] w (fun e w' => e = .returned (.int .i64 v) ∧ Below w.heap.size w w') := by
  rw [← hv.out]
  go_enter Tryz.func23, Tryz.ntmps23
  go_wp2_with (first
    | (go_at_call 78; (with_reducible refine Calls.cF (ofC (by omega)) ?_); intros)
    | (go_at_call 87; (with_reducible refine Calls.cE (rSignC (by omega)) ?_); intros))
  go_ret
  exact E.fin rfl

theorem ratCmpV {w : World} {v : Int} {g1 g2 : Bool} {a1 aa1 a2 aa2 : Option Addr} {l1 c1 ll1 cc1 l2 c2 ll2 cc2 k1 k2 : Nat} {x y : Rat} [h1 : CW w (.agg #[.bool g1, .slice a1 l1 c1, .slice aa1 ll1 cc1]) x k1] [h2 : CW w (.agg #[.bool g2, .slice a2 l2 c2, .slice aa2 ll2 cc2]) y k2] (b : k1 ≤ 50000 ∧ k2 ≤ 50000) (hv : Hid (isgn (x - y).num = v)) :
    Calls Tryz.prog 25 #[.agg #[.bool g1, .slice a1 l1 c1, .slice aa1 ll1 cc1], .agg #[.bool g2, .slice a2 l2 c2, .slice aa2 ll2 cc2]] w (fun e w' => e = .returned (.int .i64 v) ∧ Below w.heap.size w w') := by
  rw [← hv.out]
  go_enter Tryz.func25, Tryz.ntmps25
  go_wp2_with fail
  refine rgn [] [] fun hHeld => ?_
  refine tk 0 hHeld ?_
  refine tk 2 hHeld ?_
  refine st 1 fun K hK => ?_
  go_simp
  (with_reducible refine Calls.cF (ofC (by omega)) ?_); intros
  refine hd hK ?_
  clear hHeld hK K
  intro hHeld
  refine st 3 fun K hK => ?_
  go_simp
  (with_reducible refine Calls.cF (ofC (by omega)) ?_); intros
  refine hd hK ?_
  clear hHeld hK K
  intro hHeld
  refine st 4 fun K hK => ?_
  go_simp
  (with_reducible refine Calls.cE (rCmpC (by omega)) ?_); intros
  refine hd hK ?_
  clear hHeld hK K
  intro hHeld
  refine tk 5 hHeld ?_
  refine dn ?_
  clear hHeld
  go_wp2
  go_ret
  exact E.fin rfl

theorem ratNormalL {w : World} {g1 v : Bool} {a1 aa1 : Option Addr} {l1 c1 ll1 cc1 : Nat} {L LL : List Nat} [h1 : RL w (.slice a1 l1 c1) L] [h1' : RL w (.slice aa1 ll1 cc1) LL] (b1 : L.length ≤ 40000 ∧ LL.length ≤ 40000) (hv : Hid (nrmQ g1 L LL = v)) :
    Calls Tryz.prog 19 #[.agg #[.bool g1, .slice a1 l1 c1, .slice aa1 ll1 cc1]] w fun e w' => e = .returned (.bool v) ∧ Below w.heap.size w w' := by
  go_enter Tryz.func19, Tryz.ntmps19
  go_wp2_with (go_at_call 84; (with_reducible refine Calls.cE (fracNormalL ⟨by omega, by omega⟩ hv) ?_); intros)
  go_ret
  exact E.fin rfl

theorem same03E {w : World} {g1 g2 : Bool} {a1 aa1 a2 aa2 : Option Addr} {l1 c1 ll1 cc1 l2 c2 ll2 cc2 k1 k2 : Nat} {x y : Rat} [h1 : CA w (.agg #[.bool g1, .slice a1 l1 c1, .slice aa1 ll1 cc1]) x k1] [h2 : CQ w (.agg #[.bool g2, .slice a2 l2 c2, .slice aa2 ll2 cc2]) y k2] (b : k1 ≤ 700000 ∧ k2 ≤ 700000) (hxy : x = y) :
    Calls Tryz.prog 16 #[.agg #[.bool g1, .slice a1 l1 c1, .slice aa1 ll1 cc1], .agg #[.bool g2, .slice a2 l2 c2, .slice aa2 ll2 cc2]] w (fun e w' => e = .returned (.bool true) ∧ Below w.heap.size w w') := by
  subst hxy
  go_enter Tryz.func16, Tryz.ntmps16
  go_wp2_with fail
  refine rgn [] [] fun hHeld => ?_
  refine tk 0 hHeld ?_
  refine tk 1 hHeld ?_
  refine st 2 fun K hK => ?_
  go_simp
  (with_reducible refine Calls.cA (toQC (by omega)) ?_); intros
  refine hd hK ?_
  clear hHeld hK K
  intro hHeld
  refine st 3 fun K hK => ?_
  go_simp
  (with_reducible refine Calls.cE (sameQC rfl) ?_); intros
  refine hd hK ?_
  clear hHeld hK K
  intro hHeld
  refine tk 4 hHeld ?_
  refine dn ?_
  clear hHeld
  go_wp2
  go_ret
  exact E.fin rfl

theorem numSV {w : World} {v : Int} {g1 : Bool} {a1 aa1 : Option Addr} {l1 c1 ll1 cc1 k1 : Nat} {x : Rat} [h1 : CQ w (.agg #[.bool g1, .slice a1 l1 c1, .slice aa1 ll1 cc1]) x k1] (hv : Hid (isgn x.num = v)) :
    Calls Tryz.prog 24 #[.agg #[.bool g1, .slice a1 l1 c1, .slice aa1 ll1 cc1]] w (fun e w' => e = .returned (.int .i64 v) ∧ Below w.heap.size w w') := by
  rw [← hv.out]; exact numSC
theorem numCV {w : World} {v : Int} {g1 g2 : Bool} {a1 aa1 a2 aa2 : Option Addr} {l1 c1 ll1 cc1 l2 c2 ll2 cc2 k1 k2 : Nat} {x y : Rat} [h1 : CQ w (.agg #[.bool g1, .slice a1 l1 c1, .slice aa1 ll1 cc1]) x k1] [h2 : CQ w (.agg #[.bool g2, .slice a2 l2 c2, .slice aa2 ll2 cc2]) y k2] (b : k1 ≤ 40000 ∧ k2 ≤ 40000) (hv : Hid (isgn (x - y).num = v)) :
    Calls Tryz.prog 26 #[.agg #[.bool g1, .slice a1 l1 c1, .slice aa1 ll1 cc1], .agg #[.bool g2, .slice a2 l2 c2, .slice aa2 ll2 cc2]] w (fun e w' => e = .returned (.int .i64 v) ∧ Below w.heap.size w w') := by
  rw [← hv.out]; exact numCC b

theorem over_val {x y : Rat} {g : Bool} (hg : g = decide (y.num < 0)) (hy : y ≠ 0) : mkRat (x.num * sgn g y.den) (x.den * y.num.natAbs) = x / y := by
  rw [Rat.div_def, ← inv_sgn hy, hg]
  conv => rhs; rw [← Rat.mkRat_self x]
  rw [Rat.mkRat_mul_mkRat]
theorem numOverC {w : World} {g1 g2 : Bool} {a1 aa1 a2 aa2 : Option Addr} {l1 c1 ll1 cc1 l2 c2 ll2 cc2 k1 k2 : Nat} {x y : Rat} [h1 : CQ w (.agg #[.bool g1, .slice a1 l1 c1, .slice aa1 ll1 cc1]) x k1] [h2 : CQ w (.agg #[.bool g2, .slice a2 l2 c2, .slice aa2 ll2 cc2]) y k2] (b : k1 ≤ 30000 ∧ k2 ≤ 30000) (hy : y ≠ 0) :
    Calls Tryz.prog 17 #[.agg #[.bool g1, .slice a1 l1 c1, .slice aa1 ll1 cc1], .agg #[.bool g2, .slice a2 l2 c2, .slice aa2 ll2 cc2]] w (CQRet w (x / y) (k1 + k2 + 8)) := by
  have i1 := h1.num
  have i2 := h2.num
  have hg := (zz_of i2).1
  have i3 : CN w (.slice a2 l2 c2) y.num.natAbs k2 := ⟨(zz_of i2).2⟩
  have HE := Lib.hid (over_val (x := x) hg hy)
  have hm : x.den * y.num.natAbs ≠ 0 := Nat.mul_ne_zero x.den_nz (fun h => hy (Rat.num_eq_zero.1 (Int.natAbs_eq_zero.1 h)))
  clear hg hy
  go_enter Tryz.func17, Tryz.ntmps17
  go_upto_region 1 with fail
  go_cut [5] from 6 to 14 (fun tv wx => ∃ (b : Nat) (g : Bool) (a : Option Addr) (l c : Nat), tv = .pointer (some ⟨b, 0, none⟩) ∧ Bx wx b 32 [.bool g, .slice a l c] ∧ CZ wx (.agg #[.bool g, .slice a l c]) (x.num * sgn g2 y.den) (k1 + k2 + 2) ∧ NeN b (w.heap.size + 1 + 1) ∧ Kp1 (((w.alloc (.cells #[.bool g1, .slice a1 l1 c1, .slice aa1 ll1 cc1] 34)).alloc (.cells #[.bool g2, .slice a2 l2 c2, .slice aa2 ll2 cc2] 34)).alloc (.cells #[.bool false, .slice none 0 0, .slice none 0 0] 34)) wx)
  case first =>
    refine rgn [] [] fun hHeld => ?_
    refine tk 0 hHeld ?_
    refine tk 1 hHeld ?_
    refine tk 2 hHeld ?_
    refine tk 3 hHeld ?_
    refine tk 4 hHeld ?_
    refine tk 5 hHeld ?_
    refine wpAnyT_ready (rs := [6, 9]) (by kernel_rfl) (by simp) ?_
    refine AllT.cons (by simp; rfl) (fun K hK => ?_) (AllT.cons (by simp; rfl) (fun K hK => ?_) AllT.nil)
    go_simp
    (with_reducible refine Calls.cN (numDenC) ?_); intros
    refine hd hK ?_
    clear hHeld hK K
    intro hHeld
    refine wpAnyT_ready (rs := [7, 9]) (by kernel_rfl) (by simp) ?_
    refine AllT.cons (by simp; rfl) (fun K hK => ?_) (AllT.cons (by simp; rfl) (fun K hK => ?_) AllT.nil)
    go_simp
    (with_reducible refine Calls.cSg (makeC) ?_); intros
    refine hd hK ?_
    clear hHeld hK K
    intro hHeld
    refine wpAnyT_ready (rs := [8, 9]) (by kernel_rfl) (by simp) ?_
    refine AllT.cons (by simp; rfl) (fun K hK => ?_) (AllT.cons (by simp; rfl) (fun K hK => ?_) AllT.nil)
    go_simp
    (with_reducible refine Calls.cZ (numMulC (by omega)) ?_); intros
    refine hd hK ?_
    clear hHeld hK K
    intro hHeld
    refine st 9 fun K hK => ?_
    go_simp
    refine hd hK ?_
    clear hHeld hK K
    intro hHeld
    refine st 10 fun K hK => ?_
    go_simp
    refine hd hK ?_
    clear hHeld hK K
    intro hHeld
    refine dn ?_
    clear hHeld
    go_wp2_with fail
    go_meet
    exact ⟨_, _, _, _, _, rfl, inferInstance, CZ.cast inferInstance rfl (by omega), inferInstance, ⟨(inferInstance : Kp (((w.alloc (.cells #[.bool g1, .slice a1 l1 c1, .slice aa1 ll1 cc1] 34)).alloc (.cells #[.bool g2, .slice a2 l2 c2, .slice aa2 ll2 cc2] 34)).alloc (.cells #[.bool false, .slice none 0 0, .slice none 0 0] 34)) _).out⟩⟩
    go_simp
    refine hd hK ?_
    clear hHeld hK K
    intro hHeld
    refine st 8 fun K hK => ?_
    go_simp
    (with_reducible refine Calls.cZ (numMulC (by omega)) ?_); intros
    refine hd hK ?_
    clear hHeld hK K
    intro hHeld
    refine st 10 fun K hK => ?_
    go_simp
    refine hd hK ?_
    clear hHeld hK K
    intro hHeld
    refine dn ?_
    clear hHeld
    go_wp2_with fail
    go_meet
    exact ⟨_, _, _, _, _, rfl, inferInstance, CZ.cast inferInstance rfl (by omega), inferInstance, ⟨(inferInstance : Kp (((w.alloc (.cells #[.bool g1, .slice a1 l1 c1, .slice aa1 ll1 cc1] 34)).alloc (.cells #[.bool g2, .slice a2 l2 c2, .slice aa2 ll2 cc2] 34)).alloc (.cells #[.bool false, .slice none 0 0, .slice none 0 0] 34)) _).out⟩⟩
    go_simp
    refine hd hK ?_
    clear hHeld hK K
    intro hHeld
    refine st 7 fun K hK => ?_
    go_simp
    (with_reducible refine Calls.cSg (makeC) ?_); intros
    refine hd hK ?_
    clear hHeld hK K
    intro hHeld
    refine st 8 fun K hK => ?_
    go_simp
    (with_reducible refine Calls.cZ (numMulC (by omega)) ?_); intros
    refine hd hK ?_
    clear hHeld hK K
    intro hHeld
    refine st 10 fun K hK => ?_
    go_simp
    refine hd hK ?_
    clear hHeld hK K
    intro hHeld
    refine dn ?_
    clear hHeld
    go_wp2_with fail
    go_meet
    exact ⟨_, _, _, _, _, rfl, inferInstance, CZ.cast inferInstance rfl (by omega), inferInstance, ⟨(inferInstance : Kp (((w.alloc (.cells #[.bool g1, .slice a1 l1 c1, .slice aa1 ll1 cc1] 34)).alloc (.cells #[.bool g2, .slice a2 l2 c2, .slice aa2 ll2 cc2] 34)).alloc (.cells #[.bool false, .slice none 0 0, .slice none 0 0] 34)) _).out⟩⟩
    go_simp
    refine hd hK ?_
    clear hHeld hK K
    intro hHeld
    refine st 6 fun K hK => ?_
    go_simp
    (with_reducible refine Calls.cN (numDenC) ?_); intros
    refine hd hK ?_
    clear hHeld hK K
    intro hHeld
    refine st 7 fun K hK => ?_
    go_simp
    (with_reducible refine Calls.cSg (makeC) ?_); intros
    refine hd hK ?_
    clear hHeld hK K
    intro hHeld
    refine st 8 fun K hK => ?_
    go_simp
    (with_reducible refine Calls.cZ (numMulC (by omega)) ?_); intros
    refine hd hK ?_
    clear hHeld hK K
    intro hHeld
    refine st 10 fun K hK => ?_
    go_simp
    refine hd hK ?_
    clear hHeld hK K
    intro hHeld
    refine dn ?_
    clear hHeld
    go_wp2_with fail
    go_meet
    exact ⟨_, _, _, _, _, rfl, inferInstance, CZ.cast inferInstance rfl (by omega), inferInstance, ⟨(inferInstance : Kp (((w.alloc (.cells #[.bool g1, .slice a1 l1 c1, .slice aa1 ll1 cc1] 34)).alloc (.cells #[.bool g2, .slice a2 l2 c2, .slice aa2 ll2 cc2] 34)).alloc (.cells #[.bool false, .slice none 0 0, .slice none 0 0] 34)) _).out⟩⟩
  case rest =>
    obtain ⟨b0, g, a, l, c, rfl, j1, j2, j4, j3⟩ := hcut
    go_wp2_with fail
    refine rgn [w.heap.size + 1 + 1] [] fun hHeld => ?_
    refine tk 0 hHeld ?_
    refine tk 1 hHeld ?_
    refine tk 3 hHeld ?_
    refine tk 4 hHeld ?_
    refine tk 5 hHeld ?_
    refine st 2 fun K hK => ?_
    go_simp
    (with_reducible refine Calls.cN (numDenC) ?_); intros
    refine hd hK ?_
    clear hHeld hK K
    intro hHeld
    refine st 6 fun K hK => ?_
    go_simp
    (with_reducible refine Calls.cN (numProductC (by omega)) ?_); intros
    refine hd hK ?_
    clear hHeld hK K
    intro hHeld
    refine st 7 fun K hK => ?_
    go_simp
    (with_reducible refine Calls.cQ (numFracC (by omega) hm) ?_); intros
    refine hd hK ?_
    clear hHeld hK K
    intro hHeld
    refine st 8 fun K hK => ?_
    go_simp
    refine hd hK ?_
    clear hHeld hK K
    intro hHeld
    refine dn ?_
    clear hHeld
    go_wp2
    refine ret_bx rfl Tryz.underlying34 rfl (by kernel_rfl) rfl rfl rfl ?_
    exact CQRet.fin HE.out (by omega)

/-- All four lengths are at most n. -/
def small4 (n a b c d : Nat) : Bool := decide (a ≤ n ∧ b ≤ n ∧ c ≤ n ∧ d ≤ n)
theorem smallQ2 {w : World} {q : Nat} {g1 : Bool} {a1 aa1 : Option Addr} {l1 c1 ll1 cc1 : Nat} {g2 : Bool} {a2 aa2 : Option Addr} {l2 c2 ll2 cc2 : Nat} [h : Bx w q 27 [.bool g1, .slice a1 l1 c1, .slice aa1 ll1 cc1, .bool g2, .slice a2 l2 c2, .slice aa2 ll2 cc2]] {v : Bool} (hv : Hid (small4 10 l1 ll1 l2 ll2 = v)) :
    Calls Tryz.prog 11 #[.int .i64 10, .slice (some ⟨q, 0, none⟩) 2 2] w fun e w' => e = .returned (.bool v) ∧ Below w.heap.size w w' := by
  have HV : Hid (decide (l1 ≤ 10 ∧ ll1 ≤ 10 ∧ l2 ≤ 10 ∧ ll2 ≤ 10) = v) := hv
  clear hv
  by_cases h0 : l1 ≤ 10
  · by_cases h1 : ll1 ≤ 10
    · by_cases h2 : l2 ≤ 10
      · by_cases h3 : ll2 ≤ 10
        · have f0 : (l1 : Int) ≤ 10 := by omega
          have f1 : (ll1 : Int) ≤ 10 := by omega
          have f2 : (l2 : Int) ≤ 10 := by omega
          have f3 : (ll2 : Int) ≤ 10 := by omega
          obtain rfl : true = v := by have := HV.out; rw [← this]; simp; omega
          clear HV
          go_enter Tryz.func11, Tryz.ntmps11
          go_wp2_with fail
          refine wp_loop_rounds 3 ?_
          rw [rounds_succ]
          go_wp2_with fail
          rw [rounds_succ]
          go_wp2_with fail
          rw [rounds_succ]
          go_wp2_with fail
          go_ret
          exact E.fin rfl
        · have f0 : (l1 : Int) ≤ 10 := by omega
          have f1 : (ll1 : Int) ≤ 10 := by omega
          have f2 : (l2 : Int) ≤ 10 := by omega
          have f3 : (10 : Int) < ll2 := by omega
          obtain rfl : false = v := by have := HV.out; rw [← this]; simp; omega
          clear HV
          go_enter Tryz.func11, Tryz.ntmps11
          go_wp2_with fail
          refine wp_loop_rounds 2 ?_
          rw [rounds_succ]
          go_wp2_with fail
          rw [rounds_succ]
          go_wp2_with fail
          go_ret
          exact E.fin rfl
      · have f0 : (l1 : Int) ≤ 10 := by omega
        have f1 : (ll1 : Int) ≤ 10 := by omega
        have f2 : (10 : Int) < l2 := by omega
        obtain rfl : false = v := by have := HV.out; rw [← this]; simp; omega
        clear HV
        go_enter Tryz.func11, Tryz.ntmps11
        go_wp2_with fail
        refine wp_loop_rounds 2 ?_
        rw [rounds_succ]
        go_wp2_with fail
        rw [rounds_succ]
        go_wp2_with fail
        go_ret
        exact E.fin rfl
    · have f0 : (l1 : Int) ≤ 10 := by omega
      have f1 : (10 : Int) < ll1 := by omega
      obtain rfl : false = v := by have := HV.out; rw [← this]; simp; omega
      clear HV
      go_enter Tryz.func11, Tryz.ntmps11
      go_wp2_with fail
      refine wp_loop_rounds 1 ?_
      rw [rounds_succ]
      go_wp2_with fail
      go_ret
      exact E.fin rfl
  · have f0 : (10 : Int) < l1 := by omega
    obtain rfl : false = v := by have := HV.out; rw [← this]; simp; omega
    clear HV
    go_enter Tryz.func11, Tryz.ntmps11
    go_wp2_with fail
    refine wp_loop_rounds 1 ?_
    rw [rounds_succ]
    go_wp2_with fail
    go_ret
    exact E.fin rfl

instance CQ.ofZ {W : World} {g : Bool} {a : Option Addr} {l c k : Nat} {z : Int} [h : CZ W (.agg #[.bool g, .slice a l c]) z k] : CQ W (.agg #[.bool g, .slice a l c, .slice none 0 0]) (z : Rat) k := CQ.mk' (h1 := h) (h2 := CN.nil) rfl rfl (Nat.le_refl _) (Nat.zero_le _)
def phiQ (x : Rat) (k : Nat) (u : Value) (W : World) : Prop := ∃ g a l c aa ll cc, u = .agg #[.bool g, .slice a l c, .slice aa ll cc] ∧ CQ W (.agg #[.bool g, .slice a l c, .slice aa ll cc]) x k
instance {x : Rat} {k : Nat} : Last (phiQ x k) := ⟨fun _ _ _ hb ⟨g, a, l, c, aa, ll, cc, e, _⟩ => have := Kp1.mk hb; ⟨g, a, l, c, aa, ll, cc, e, inferInstance⟩⟩
theorem phiQ.fin {W : World} {g : Bool} {a : Option Addr} {l : Nat} {c : Nat} {aa : Option Addr} {ll : Nat} {cc : Nat} {x x' : Rat} {kx : Nat} {k : Nat} [hx : CQ W (.agg #[.bool g, .slice a l c, .slice aa ll cc]) x kx] (ex : x = x') (mx : kx ≤ k) : phiQ x' k (.agg #[.bool g, .slice a l c, .slice aa ll cc]) W := ⟨g, a, l, c, aa, ll, cc, rfl, hx.cast ex mx⟩
/-- An integer, 0 or not, with the length of its digits. -/
theorem Calls.cIz {P : Program} {f : FuncId} {args : Array Value} {w : World} {z : Int} {k : Nat} {K : Ending → World → Prop} (h : Calls P f args w (CZRet w z k)) (hz : z = 0)
    (hK : ∀ w' [Kp1 w w'] g a c [CZ w' (.agg #[.bool g, .slice a 0 c]) z k], K (.returned (.agg #[.bool g, .slice a 0 c])) w') : Calls P f args w K := by
  refine h.mono ?_
  rintro e w' ⟨g, a, l, c, rfl, hx, hb⟩
  obtain rfl : l = 0 := by rw [(zz_of hx).2.len, hz]; rfl
  exact @hK w' ⟨hb⟩ g a c hx
theorem Calls.cIp {P : Program} {f : FuncId} {args : Array Value} {w : World} {z : Int} {k : Nat} {K : Ending → World → Prop} (h : Calls P f args w (CZRet w z k)) (hz : z ≠ 0)
    (hK : ∀ w' [Kp1 w w'] g a l c [CZ w' (.agg #[.bool g, .slice a l c]) z k], 0 < (l : Int) → 0 < l → K (.returned (.agg #[.bool g, .slice a l c])) w') : Calls P f args w K := by
  refine h.mono ?_
  rintro e w' ⟨g, a, l, c, rfl, hx, hb⟩
  have hl : 0 < l := by rw [(zz_of hx).2.len]; exact nf_len_pos (by omega)
  exact @hK w' ⟨hb⟩ g a l c hx (by omega) hl
end Go.Proofs.YtfdgglddldlpjaaGreatDoor
