/-
  Texts of this claim, joined: Line, Inv, Ln2, Ln3, Ln4.
-/
import Derived.Test.YtdlnoeegboapkaaGreatDoorCM
import Derived.Test.YtdlnoeegboapkaaGreatDoorCH
import Derived.Test.YtdlnoeegboapkaaGreatDoorCN
import Derived.Test.YtdlnoeegboapkaaGreatDoorCQ
import Derived.Deep.CutRange
/- Lines of package geo: contracts. printed by a small program (mkline.py). -/
namespace Go.Proofs.YtdlnoeegboapkaaGreatDoor
open Go.RowKit
set_option maxRecDepth 100000
set_option maxHeartbeats 40000000
set_option synthInstance.maxSize 100000
set_option synthInstance.maxHeartbeats 1000000
set_option linter.unusedVariables false

theorem turnC {w : World} {n1x d1x n1y d1y : Int} {p1x p1y : Option Addr} {x y : Rat} {k1x k1y : Nat} [h1x : CF w (.agg #[.int .i64 n1x, .int .i64 d1x, .pointer p1x]) x k1x] [h1y : CF w (.agg #[.int .i64 n1y, .int .i64 d1y, .pointer p1y]) y k1y] (b : k1x ≤ 400000 ∧ k1y ≤ 400000) :
    Calls Tryz.prog 266 #[.agg #[.int .i64 n1x, .int .i64 d1x, .pointer p1x, .int .i64 n1y, .int .i64 d1y, .pointer p1y]] w (CPFRet w (-y) (x) (k1x + k1y)) := by
  go_enter Tryz.func266, Tryz.ntmps266
  go_wp2_with fail
  refine rgn [w.heap.size + 1] [] fun hHeld => ?_
  refine tk 0 hHeld ?_
  refine tk 1 hHeld ?_
  refine tk 3 hHeld ?_
  refine tk 4 hHeld ?_
  refine st 2 fun K hK => ?_
  go_simp
  (with_reducible refine Calls.cF (rNegC (by omega)) ?_); intros
  refine hd hK ?_
  clear hHeld hK K
  intro hHeld
  refine tk 5 hHeld ?_
  refine st 6 fun K hK => ?_
  go_simp
  refine hd hK ?_
  clear hHeld hK K
  intro hHeld
  refine dn ?_
  clear hHeld
  go_wp2
  refine ret_bx rfl Tryz.underlying152 rfl (by kernel_rfl) rfl rfl rfl ?_
  exact CPFRet.fin rfl (by omega) rfl (by omega)

theorem lnNormalC {w : World} {n1x d1x n1y d1y n1z d1z : Int} {p1x p1y p1z : Option Addr} {la lb lc : Rat} {k1x k1y k1z : Nat} [h1x : CF w (.agg #[.int .i64 n1x, .int .i64 d1x, .pointer p1x]) la k1x] [h1y : CF w (.agg #[.int .i64 n1y, .int .i64 d1y, .pointer p1y]) lb k1y] [h1z : CF w (.agg #[.int .i64 n1z, .int .i64 d1z, .pointer p1z]) lc k1z] (b : k1x ≤ 400000 ∧ k1y ≤ 400000 ∧ k1z ≤ 400000) :
    Calls Tryz.prog 224 #[.agg #[.int .i64 n1x, .int .i64 d1x, .pointer p1x, .int .i64 n1y, .int .i64 d1y, .pointer p1y, .int .i64 n1z, .int .i64 d1z, .pointer p1z]] w (CPFRet w (la) (lb) (max k1x k1y)) := by
  go_enter Tryz.func224, Tryz.ntmps224
  go_wp2
  refine ret_bx rfl Tryz.underlying152 rfl (by kernel_rfl) rfl rfl rfl ?_
  exact CPFRet.fin rfl (by omega) rfl (by omega)

theorem lnDirC {w : World} {n1x d1x n1y d1y n1z d1z : Int} {p1x p1y p1z : Option Addr} {la lb lc : Rat} {k1x k1y k1z : Nat} [h1x : CF w (.agg #[.int .i64 n1x, .int .i64 d1x, .pointer p1x]) la k1x] [h1y : CF w (.agg #[.int .i64 n1y, .int .i64 d1y, .pointer p1y]) lb k1y] [h1z : CF w (.agg #[.int .i64 n1z, .int .i64 d1z, .pointer p1z]) lc k1z] (b : k1x ≤ 400000 ∧ k1y ≤ 400000 ∧ k1z ≤ 400000) :
    Calls Tryz.prog 227 #[.agg #[.int .i64 n1x, .int .i64 d1x, .pointer p1x, .int .i64 n1y, .int .i64 d1y, .pointer p1y, .int .i64 n1z, .int .i64 d1z, .pointer p1z]] w (CPFRet w (lb) (-la) (max k1x k1y)) := by
  go_enter Tryz.func227, Tryz.ntmps227
  go_wp2_with fail
  refine rgn [w.heap.size + 1] [] fun hHeld => ?_
  refine tk 0 hHeld ?_
  refine tk 1 hHeld ?_
  refine tk 2 hHeld ?_
  refine tk 3 hHeld ?_
  refine st 4 fun K hK => ?_
  go_simp
  (with_reducible refine Calls.cF (rNegC (by omega)) ?_); intros
  refine hd hK ?_
  clear hHeld hK K
  intro hHeld
  refine tk 5 hHeld ?_
  refine st 6 fun K hK => ?_
  go_simp
  refine hd hK ?_
  clear hHeld hK K
  intro hHeld
  refine dn ?_
  clear hHeld
  go_wp2
  refine ret_bx rfl Tryz.underlying152 rfl (by kernel_rfl) rfl rfl rfl ?_
  exact CPFRet.fin rfl (by omega) rfl (by omega)

theorem lnReverseC {w : World} {n1x d1x n1y d1y n1z d1z : Int} {p1x p1y p1z : Option Addr} {la lb lc : Rat} {k1x k1y k1z : Nat} [h1x : CF w (.agg #[.int .i64 n1x, .int .i64 d1x, .pointer p1x]) la k1x] [h1y : CF w (.agg #[.int .i64 n1y, .int .i64 d1y, .pointer p1y]) lb k1y] [h1z : CF w (.agg #[.int .i64 n1z, .int .i64 d1z, .pointer p1z]) lc k1z] (b : k1x ≤ 400000 ∧ k1y ≤ 400000 ∧ k1z ≤ 400000) :
    Calls Tryz.prog 222 #[.agg #[.int .i64 n1x, .int .i64 d1x, .pointer p1x, .int .i64 n1y, .int .i64 d1y, .pointer p1y, .int .i64 n1z, .int .i64 d1z, .pointer p1z]] w (CLFRet w (-la) (-lb) (-lc) (max k1x (max k1y k1z) + 5)) := by
  go_enter Tryz.func222, Tryz.ntmps222
  go_wp2_with fail
  refine rgn [w.heap.size + 1] [] fun hHeld => ?_
  refine tk 0 hHeld ?_
  refine tk 1 hHeld ?_
  refine tk 3 hHeld ?_
  refine tk 4 hHeld ?_
  refine tk 6 hHeld ?_
  refine tk 7 hHeld ?_
  refine st 2 fun K hK => ?_
  go_simp
  (with_reducible refine Calls.cF (rNegC (by omega)) ?_); intros
  refine hd hK ?_
  clear hHeld hK K
  intro hHeld
  refine st 5 fun K hK => ?_
  go_simp
  (with_reducible refine Calls.cF (rNegC (by omega)) ?_); intros
  refine hd hK ?_
  clear hHeld hK K
  intro hHeld
  refine st 8 fun K hK => ?_
  go_simp
  (with_reducible refine Calls.cF (rNegC (by omega)) ?_); intros
  refine hd hK ?_
  clear hHeld hK K
  intro hHeld
  refine tk 9 hHeld ?_
  refine st 10 fun K hK => ?_
  go_simp
  refine hd hK ?_
  clear hHeld hK K
  intro hHeld
  refine dn ?_
  clear hHeld
  go_wp2
  refine ret_bx rfl Tryz.underlying178 rfl (by kernel_rfl) rfl rfl rfl ?_
  exact CLFRet.fin rfl (by omega) rfl (by omega) rfl (by omega)

theorem lnBaseC {w : World} {n1x d1x n1y d1y n1z d1z : Int} {p1x p1y p1z : Option Addr} {la lb lc : Rat} {k1x k1y k1z : Nat} [h1x : CF w (.agg #[.int .i64 n1x, .int .i64 d1x, .pointer p1x]) la k1x] [h1y : CF w (.agg #[.int .i64 n1y, .int .i64 d1y, .pointer p1y]) lb k1y] [h1z : CF w (.agg #[.int .i64 n1z, .int .i64 d1z, .pointer p1z]) lc k1z] (b : k1x ≤ 9000 ∧ k1y ≤ 9000 ∧ k1z ≤ 9000) :
    Calls Tryz.prog 229 #[.agg #[.int .i64 n1x, .int .i64 d1x, .pointer p1x, .int .i64 n1y, .int .i64 d1y, .pointer p1y, .int .i64 n1z, .int .i64 d1z, .pointer p1z]] w (CPFRet w (la * (-lc / (la * la + lb * lb))) (lb * (-lc / (la * la + lb * lb))) (5 * (max k1x k1y) + k1z + 20)) := by
  go_enter Tryz.func229, Tryz.ntmps229
  go_wp2_with (first
    | (go_at_call 224; (with_reducible refine Calls.cPF (lnNormalC (by omega)) ?_); intros))
  refine rgn [w.heap.size + 1] [] fun hHeld => ?_
  refine tk 0 hHeld ?_
  refine tk 1 hHeld ?_
  refine tk 2 hHeld ?_
  refine tk 4 hHeld ?_
  refine tk 5 hHeld ?_
  refine st 3 fun K hK => ?_
  go_simp
  (with_reducible refine Calls.cF (rNegC (by omega)) ?_); intros
  refine hd hK ?_
  clear hHeld hK K
  intro hHeld
  refine st 6 fun K hK => ?_
  go_simp
  (with_reducible refine Calls.cF (gDotC (by omega)) ?_); intros
  refine hd hK ?_
  clear hHeld hK K
  intro hHeld
  refine st 7 fun K hK => ?_
  go_simp
  (with_reducible refine Calls.cF (rQuoC (by omega)) ?_); intros
  refine hd hK ?_
  clear hHeld hK K
  intro hHeld
  refine st 8 fun K hK => ?_
  go_simp
  (with_reducible refine Calls.cPF (ptScaleC (by omega)) ?_); intros
  refine hd hK ?_
  clear hHeld hK K
  intro hHeld
  refine st 9 fun K hK => ?_
  go_simp
  refine hd hK ?_
  clear hHeld hK K
  intro hHeld
  refine dn ?_
  clear hHeld
  go_wp2
  refine ret_bx rfl Tryz.underlying152 rfl (by kernel_rfl) rfl rfl rfl ?_
  exact CPFRet.fin rfl (by omega) rfl (by omega)

theorem lnAtC {w : World} {n1x d1x n1y d1y n1z d1z n2 d2 : Int} {p1x p1y p1z p2 : Option Addr} {la lb lc t : Rat} {k1x k1y k1z k2 : Nat} [h1x : CF w (.agg #[.int .i64 n1x, .int .i64 d1x, .pointer p1x]) la k1x] [h1y : CF w (.agg #[.int .i64 n1y, .int .i64 d1y, .pointer p1y]) lb k1y] [h1z : CF w (.agg #[.int .i64 n1z, .int .i64 d1z, .pointer p1z]) lc k1z] [h2 : CF w (.agg #[.int .i64 n2, .int .i64 d2, .pointer p2]) t k2] (b : k1x ≤ 8000 ∧ k1y ≤ 8000 ∧ k1z ≤ 8000 ∧ k2 ≤ 8000) :
    Calls Tryz.prog 168 #[.agg #[.int .i64 n1x, .int .i64 d1x, .pointer p1x, .int .i64 n1y, .int .i64 d1y, .pointer p1y, .int .i64 n1z, .int .i64 d1z, .pointer p1z], .agg #[.int .i64 n2, .int .i64 d2, .pointer p2]] w (CPFRet w (la * (-lc / (la * la + lb * lb)) + lb * t) (lb * (-lc / (la * la + lb * lb)) + -la * t) (6 * (max k1x k1y) + k1z + k2 + 30)) := by
  go_enter Tryz.func168, Tryz.ntmps168
  go_wp2_with fail
  refine rgn [w.heap.size + 1 + 1] [] fun hHeld => ?_
  refine tk 0 hHeld ?_
  refine tk 2 hHeld ?_
  refine tk 4 hHeld ?_
  refine st 1 fun K hK => ?_
  go_simp
  (with_reducible refine Calls.cPF (lnBaseC (by omega)) ?_); intros
  refine hd hK ?_
  clear hHeld hK K
  intro hHeld
  refine st 3 fun K hK => ?_
  go_simp
  (with_reducible refine Calls.cPF (lnDirC (by omega)) ?_); intros
  refine hd hK ?_
  clear hHeld hK K
  intro hHeld
  refine st 5 fun K hK => ?_
  go_simp
  (with_reducible refine Calls.cPF (ptScaleC (by omega)) ?_); intros
  refine hd hK ?_
  clear hHeld hK K
  intro hHeld
  refine st 6 fun K hK => ?_
  go_simp
  (with_reducible refine Calls.cPF (ptAddC (by omega)) ?_); intros
  refine hd hK ?_
  clear hHeld hK K
  intro hHeld
  refine st 7 fun K hK => ?_
  go_simp
  refine hd hK ?_
  clear hHeld hK K
  intro hHeld
  refine dn ?_
  clear hHeld
  go_wp2
  refine ret_bx rfl Tryz.underlying152 rfl (by kernel_rfl) rfl rfl rfl ?_
  exact CPFRet.fin rfl (by omega) rfl (by omega)

theorem lnParamC {w : World} {n1x d1x n1y d1y n1z d1z n2x d2x n2y d2y : Int} {p1x p1y p1z p2x p2y : Option Addr} {la lb lc x y : Rat} {k1x k1y k1z k2x k2y : Nat} [h1x : CF w (.agg #[.int .i64 n1x, .int .i64 d1x, .pointer p1x]) la k1x] [h1y : CF w (.agg #[.int .i64 n1y, .int .i64 d1y, .pointer p1y]) lb k1y] [h1z : CF w (.agg #[.int .i64 n1z, .int .i64 d1z, .pointer p1z]) lc k1z] [h2x : CF w (.agg #[.int .i64 n2x, .int .i64 d2x, .pointer p2x]) x k2x] [h2y : CF w (.agg #[.int .i64 n2y, .int .i64 d2y, .pointer p2y]) y k2y] (b : k1x ≤ 8000 ∧ k1y ≤ 8000 ∧ k1z ≤ 8000 ∧ k2x ≤ 8000 ∧ k2y ≤ 8000) :
    Calls Tryz.prog 166 #[.agg #[.int .i64 n1x, .int .i64 d1x, .pointer p1x, .int .i64 n1y, .int .i64 d1y, .pointer p1y, .int .i64 n1z, .int .i64 d1z, .pointer p1z], .agg #[.int .i64 n2x, .int .i64 d2x, .pointer p2x, .int .i64 n2y, .int .i64 d2y, .pointer p2y]] w (CFRet w ((lb * x + -la * y) / (lb * lb + -la * -la)) (6 * (max k1x k1y) + k2x + k2y + 30)) := by
  go_enter Tryz.func166, Tryz.ntmps166
  go_wp2_with (first
    | (go_at_call 227; (with_reducible refine Calls.cPF (lnDirC (by omega)) ?_); intros))
  refine rgn [w.heap.size + 1 + 1] [] fun hHeld => ?_
  refine tk 0 hHeld ?_
  refine tk 1 hHeld ?_
  refine tk 3 hHeld ?_
  refine tk 4 hHeld ?_
  refine st 2 fun K hK => ?_
  go_simp
  (with_reducible refine Calls.cF (gDotC (by omega)) ?_); intros
  refine hd hK ?_
  clear hHeld hK K
  intro hHeld
  refine st 5 fun K hK => ?_
  go_simp
  (with_reducible refine Calls.cF (gDotC (by omega)) ?_); intros
  refine hd hK ?_
  clear hHeld hK K
  intro hHeld
  refine st 6 fun K hK => ?_
  go_simp
  (with_reducible refine Calls.cF (rQuoC (by omega)) ?_); intros
  refine hd hK ?_
  clear hHeld hK K
  intro hHeld
  refine st 7 fun K hK => ?_
  go_simp
  refine hd hK ?_
  clear hHeld hK K
  intro hHeld
  refine dn ?_
  clear hHeld
  go_wp2
  refine ret_bx rfl Tryz.underlying147 rfl (by kernel_rfl) rfl rfl rfl ?_
  exact CFRet.fin rfl (by omega)

end Go.Proofs.YtdlnoeegboapkaaGreatDoor

/- A region that draws its order, by an invariant: every operation of a list 'todo' is met once, whatever ran before it, and what an operation gives lasts. The number of goals is the number of operations, not of orders. -/
namespace Go.Proofs.YtdlnoeegboapkaaGreatDoor
open Go.RowKit
section
variable {P : Program} {ops : Array Oper} {Q : Exit → Act → World → Prop} {md : Region.Mode} {S : World → Prop} {T : Nat → Bool}
def dstOf (ops : Array Oper) (i : Nat) : Option Tmp := (ops[i]?).bind (·.dst)
def putAll (f : Nat → Value) : List (Nat × Tmp) → Act → Act
  | [], a => a
  | p :: r, a => putAll f r (a.put (some p.2) (f p.1))
def upd (f : Nat → Value) (i : Nat) (v : Value) : Nat → Value := fun j => if j = i then v else f j
theorem put_put {a : Act} {d : Option Tmp} {x v : Value} : (a.put d x).put d v = a.put d v := by
  cases d with
  | none => rfl
  | some d => simp [Act.put]
theorem put_comm {a : Act} {d e : Option Tmp} {x v : Value} (h : d ≠ e) : (a.put d x).put e v = (a.put e v).put d x := by
  cases d with
  | none => rfl
  | some d =>
    cases e with
    | none => rfl
    | some e =>
      have hde : d ≠ e := fun h' => h (by rw [h'])
      simp only [Act.put]
      rw [Array.setIfInBounds_comm _ _ hde]
theorem putAll_put {f : Nat → Value} {d : Tmp} {v : Value} : ∀ (r : List (Nat × Tmp)) (a : Act), (∀ p ∈ r, p.2 ≠ d) → (putAll f r a).put (some d) v = putAll f r (a.put (some d) v)
  | [], _, _ => rfl
  | p :: r, a, h => by
    show (putAll f r _).put _ v = putAll f r _
    rw [putAll_put r _ (fun k hk => h k (List.mem_cons_of_mem _ hk)), put_comm (fun e => h p (List.mem_cons_self ..) (Option.some.inj e))]
theorem putAll_congr {f g : Nat → Value} : ∀ (r : List (Nat × Tmp)) (a : Act), (∀ p ∈ r, f p.1 = g p.1) → putAll f r a = putAll g r a
  | [], _, _ => rfl
  | p :: r, a, h => by
    show putAll f r _ = putAll g r _
    rw [h p (List.mem_cons_self ..), putAll_congr r _ (fun k hk => h k (List.mem_cons_of_mem _ hk))]
theorem putAll_upd {f : Nat → Value} {i : Nat} {d : Tmp} {v : Value} : ∀ (r : List (Nat × Tmp)) (a : Act), (r.map (·.2)).Nodup → (r.map (·.1)).Nodup → (i, d) ∈ r → (putAll f r a).put (some d) v = putAll (upd f i v) r a
  | [], _, _, _, hi => nomatch hi
  | p :: r, a, hn, hm, hi => by
    rw [List.map_cons, List.nodup_cons] at hn hm
    obtain ⟨hj, hn⟩ := hn
    obtain ⟨hk, hm⟩ := hm
    rcases List.mem_cons.1 hi with e | hi'
    · subst e
      have hne : ∀ k ∈ r, k.2 ≠ d := fun k hk' e => hj (List.mem_map.2 ⟨k, hk', e⟩)
      show (putAll f r _).put _ v = putAll (upd f i v) r _
      rw [putAll_put r _ hne, put_put, show upd f i v i = v from if_pos rfl]
      exact putAll_congr r _ (fun k hk' => (if_neg (fun e => hk (List.mem_map.2 ⟨k, hk', e⟩))).symm)
    · have hij : p.1 ≠ i := fun e => hk (List.mem_map.2 ⟨_, hi', e.symm⟩)
      show (putAll f r (a.put _ (f p.1))).put _ v = putAll (upd f i v) r (a.put _ (upd f i v p.1))
      rw [show upd f i v p.1 = f p.1 from if_neg hij]
      exact putAll_upd r _ hn hm hi'
theorem put_self (a : Act) (d : Tmp) : a.put (some d) (a.tmps.getD d undef) = a := by
  obtain ⟨t, ds⟩ := a
  simp only [Act.put, Act.mk.injEq, and_true]
  apply Array.ext_getElem?
  intro i
  rw [Array.getElem?_setIfInBounds]
  split
  · rename_i h
    subst h
    split
    · rename_i h; simp [h]
    · rename_i h; simp [h]
  · rfl
theorem putAll_self {f : Nat → Value} (a : Act) : ∀ r : List (Nat × Tmp), (∀ p ∈ r, f p.1 = a.tmps.getD p.2 undef) → putAll f r a = a
  | [], _ => rfl
  | p :: r, h => by
    show putAll f r (a.put (some p.2) (f p.1)) = a
    rw [h p (List.mem_cons_self ..), put_self]
    exact putAll_self a r (fun q hq => h q (List.mem_cons_of_mem _ hq))
/-- The value in the slot of an operation. -/
def slotOf (a : Act) : List (Nat × Tmp) → Nat → Value
  | [], _ => undef
  | p :: r, i => if i = p.1 then a.tmps.getD p.2 undef else slotOf a r i
theorem slotOf_eq (a : Act) : ∀ r : List (Nat × Tmp), (r.map (·.1)).Nodup → ∀ p ∈ r, slotOf a r p.1 = a.tmps.getD p.2 undef
  | [], _, _, h => nomatch h
  | q :: r, hn, p, h => by
    rw [List.map_cons, List.nodup_cons] at hn
    rcases List.mem_cons.1 h with rfl | h
    · exact if_pos rfl
    · show (if p.1 = q.1 then _ else slotOf a r p.1) = _
      rw [if_neg (fun e => hn.1 (List.mem_map.2 ⟨p, h, e⟩))]
      exact slotOf_eq a r hn.2 p h
def lset : List Nat → Array Bool → Array Bool
  | [], L => L
  | i :: s, L => lset s (L.setIfInBounds i true)
theorem lset_get : ∀ (s : List Nat) (L : Array Bool) (j : Nat), (lset s L)[j]? = if j ∈ s ∧ j < L.size then some true else L[j]?
  | [], L, j => by simp [lset]
  | i :: s, L, j => by
    show (lset s _)[j]? = _
    rw [lset_get s, Array.getElem?_setIfInBounds, Array.size_setIfInBounds]
    by_cases hij : i = j
    · subst hij
      by_cases hl : i < L.size <;> simp [hl]
    · have hji : ¬ j = i := fun e => hij e.symm
      simp [hij, hji]
theorem lset_step (todo : List Nat) (g : Nat → Bool) {i : Nat} (hi : i ∈ todo) (L : Array Bool) : (lset (todo.filter g) L).setIfInBounds i true = lset (todo.filter (fun j => g j || j == i)) L := by
  apply Array.ext_getElem?
  intro j
  have hs : ∀ (s : List Nat) (L : Array Bool), (lset s L).size = L.size := by
    intro s
    induction s with
    | nil => intro L; rfl
    | cons i s ih => intro L; show (lset s _).size = _; rw [ih, Array.size_setIfInBounds]
  rw [Array.getElem?_setIfInBounds, lset_get, lset_get, hs]
  simp only [List.mem_filter, Bool.or_eq_true, beq_iff_eq]
  by_cases hij : i = j
  · subst hij
    by_cases hl : i < L.size <;> simp [hl, hi]
  · have hji : ¬ j = i := fun e => hij e.symm
    simp [hij, hji]
def subs : List Nat → List (List Nat)
  | [] => [[]]
  | i :: r => (subs r).flatMap fun s => [s, i :: s]
theorem filter_subs (g : Nat → Bool) : ∀ l, l.filter g ∈ subs l
  | [] => List.mem_cons_self ..
  | i :: r => by
    rw [List.filter_cons]
    refine List.mem_flatMap.2 ⟨_, filter_subs g r, ?_⟩
    split
    · exact List.mem_cons_of_mem _ (List.mem_cons_self ..)
    · exact List.mem_cons_self ..
/-- Whatever part of 'todo' has run: one of the rest may come up, and nothing else; what it reads has run. -/
def chkS (md : Region.Mode) (ops : Array Oper) (L0 : Array Bool) (todo : List Nat) (pre : Nat → List Nat) : Bool :=
  (subs todo).all fun s => !(s.all fun i => (pre i).all fun j => s.contains j) || s == todo || (!(Region.ready md ops (lset s L0)).isEmpty && (Region.ready md ops (lset s L0)).all fun i => todo.contains i && !s.contains i && (pre i).all fun j => s.contains j)
theorem count_step {g : Nat → Bool} {i : Nat} (hg : g i = false) : ∀ l : List Nat, l.Nodup → i ∈ l → (l.filter fun j => !g j).length = (l.filter fun j => !(g j || j == i)).length + 1
  | [], _, hi => nomatch hi
  | j :: r, hn, hi => by
    rw [List.nodup_cons] at hn
    by_cases hij : j = i
    · subst hij
      have h0 : (r.filter fun k => !g k) = r.filter fun k => !(g k || k == j) := by
        apply List.filter_congr
        intro k hk
        have : k ≠ j := fun e => hn.1 (e ▸ hk)
        simp [this]
      simp [hg, h0]
    · have := count_step hg r hn.2 ((List.mem_cons.1 hi).resolve_left (fun e => hij e.symm))
      simp only [List.filter_cons, Bool.or_false, show (j == i) = false by simpa using hij]
      split <;> simp [this]
/-- What lasts while memory grows. -/
class Last (φ : Value → World → Prop) : Prop where out : ∀ v W W', Below W.heap.size W W' → φ v W → φ v W'
def phi : List (Value → World → Prop) → List Nat → Nat → Value → World → Prop
  | φ :: r, j :: s, i => if i = j then φ else phi r s i
  | _, _, _ => fun _ _ => True
class Lasts (l : List (Value → World → Prop)) : Prop where out : ∀ (s : List Nat) (i : Nat), Last (phi l s i)
instance Lasts.nil : Lasts [] := ⟨fun _ _ => ⟨fun _ _ _ _ _ => trivial⟩⟩
instance Lasts.cons {φ : Value → World → Prop} {l : List (Value → World → Prop)} [h1 : Last φ] [h2 : Lasts l] : Lasts (φ :: l) := ⟨fun s i => by
  cases s with
  | nil => exact ⟨fun _ _ _ _ _ => trivial⟩
  | cons j s =>
    show Last (if i = j then φ else phi l s i)
    split
    · exact h1
    · exact h2.out s i⟩
/-- A pointer to a block that was made after W; to one that is there in W. -/
def NewP (v : Value) (W : World) : Prop := ∃ b, v = .pointer (some ⟨b, 0, none⟩) ∧ W.heap.size ≤ b
def OldP (v : Value) (W : World) : Prop := ∃ b, v = .pointer (some ⟨b, 0, none⟩) ∧ b < W.heap.size
theorem newP_ne {u v : Value} {W : World} (h1 : NewP v W) (h2 : OldP u W) : u ≠ v := by
  obtain ⟨b, rfl, hb⟩ := h1
  obtain ⟨c, rfl, hc⟩ := h2
  intro e
  simp only [Value.pointer.injEq, Option.some.injEq, Addr.mk.injEq, and_true] at e
  omega
theorem ptr_ne {b c : Nat} (h : (Value.pointer (some ⟨b, 0, none⟩)) ≠ .pointer (some ⟨c, 0, none⟩)) : NeN b c := ⟨fun e => h (by rw [e])⟩
theorem wpAnyT_inv (dl : List (Nat × Tmp)) (pre : Nat → List Nat) (φs : List (Value → World → Prop)) [hΦ : Lasts φs] (A : List Nat) {L0 : Array Bool} {a0 : Act} {w : World} {F : Nat} (m : Nat) (hF : F = m + dl.length)
    (hchk : chkS md ops L0 (dl.map (·.1)) pre = true) (hd : (dl.map (·.2)).Nodup) (hnd : (dl.map (·.1)).Nodup) (hds : (dl.all fun p => dstOf ops p.1 == some p.2) = true) (hA : ∀ i ∈ A, ∀ v W, phi φs (dl.map (·.1)) i v W → OldP v W) (hSk : ∀ W W', Below W.heap.size W W' → S W → S W') (hS : S w)
    (hop : ∀ i ∈ dl.map (·.1), ∀ (f : Nat → Value) (W : World), S W → Below w.heap.size w W → (∀ j ∈ pre i, phi φs (dl.map (·.1)) j (f j) W) → ∃ o, ops[i]? = some o ∧ ∀ K' : Act → World → Prop,
      Shut (∀ a' v W', a' = (putAll f dl a0).put o.dst v → Below W.heap.size W W' → phi φs (dl.map (·.1)) i v W' → (i ∈ A → NewP v W) → K' a' W') →
      if Region.wanted o (yielded ops (putAll f dl a0).tmps) = true then Oper.wp P o (putAll f dl a0) W K' Q else K' ((putAll f dl a0).put o.dst undef) W)
    (hend : ∀ (f : Nat → Value) (W : World), S W → Below w.heap.size w W → (∀ j ∈ dl.map (·.1), phi φs (dl.map (·.1)) j (f j) W) → (∀ j k, j ∈ A → k ∈ A → j ∈ dl.map (·.1) → k ∈ dl.map (·.1) → j ≠ k → f j ≠ f k) → wpAnyT P md ops Q S T m (lset (dl.map (·.1)) L0) (putAll f dl a0) W) :
    wpAnyT P md ops Q S T F L0 a0 w := by
  subst hF
  have hlen : dl.length = (dl.map (·.1)).length := by rw [List.length_map]
  rw [hlen]
  have hds' : ∀ i ∈ dl.map (·.1), ∃ d, (i, d) ∈ dl ∧ dstOf ops i = some d := fun i hi => by
    obtain ⟨p, hp, rfl⟩ := List.mem_map.1 hi
    exact ⟨p.2, hp, by simpa using List.all_eq_true.1 hds p hp⟩
  generalize hT : dl.map (·.1) = todo at *
  have key : ∀ (n : Nat) (g : Nat → Bool) (f : Nat → Value) (W : World), (todo.filter fun j => !g j).length = n → S W → Below w.heap.size w W → (∀ j ∈ todo, g j = true → phi φs todo j (f j) W) → (∀ j k, j ∈ A → k ∈ A → j ∈ todo → k ∈ todo → g j = true → g k = true → j ≠ k → f j ≠ f k) → (∀ j ∈ todo, g j = true → ∀ k ∈ pre j, k ∈ todo ∧ g k = true) →
      wpAnyT P md ops Q S T (m + n) (lset (todo.filter g) L0) (putAll f dl a0) W := by
    intro n
    induction n with
    | zero =>
      intro g f W hn hSW hB hf hne _
      have hall : ∀ j ∈ todo, g j = true := fun j hj => by
        have h0 := List.eq_nil_of_length_eq_zero hn
        have := List.filter_eq_nil_iff.1 h0 j hj
        simpa using this
      rw [List.filter_eq_self.2 hall]
      exact hend f W hSW hB (fun j hj => hf j hj (hall j hj)) (fun j k ha hb hj hk => hne j k ha hb hj hk (hall j hj) (hall k hk))
    | succ n ih =>
      intro g f W hn hSW hB hf hnf hcl
      have hs := List.all_eq_true.1 hchk _ (filter_subs g todo)
      have hne : ((todo.filter g == todo) : Bool) = false := by
        rw [beq_eq_false_iff_ne]
        intro e
        have hall := List.filter_eq_self.1 e
        have : (todo.filter fun j => !g j) = [] := List.filter_eq_nil_iff.2 (fun j hj => by simp [hall j hj])
        rw [this] at hn
        simp at hn
      have hcl2 : ((todo.filter g).all fun i => (pre i).all fun j => (todo.filter g).contains j) = true := by
        simp only [List.all_eq_true, List.contains_iff_mem, List.mem_filter]
        exact fun i hi j hj => hcl i hi.1 hi.2 j hj
      rw [hne, hcl2, Bool.not_true, Bool.false_or, Bool.false_or, Bool.and_eq_true] at hs
      obtain ⟨hr, hs⟩ := hs
      refine ⟨fun h0 => (by rw [h0] at hr; simp at hr), fun i hi => ?_⟩
      have hi2 := List.all_eq_true.1 hs i hi
      simp only [Bool.and_eq_true, List.contains_iff_mem, Bool.not_eq_true', List.all_eq_true] at hi2
      obtain ⟨⟨hit, his⟩, hp⟩ := hi2
      have hgi : g i = false := by
        cases hg : g i with
        | false => rfl
        | true =>
          have : (todo.filter g).contains i = true := List.contains_iff_mem.2 (List.mem_filter.2 ⟨hit, hg⟩)
          rw [this] at his
          cases his
      obtain ⟨o, ho, H⟩ := hop i hit f W hSW hB (fun j hj => by
        have := List.mem_filter.1 (hp j hj)
        exact hf j this.1 this.2)
      obtain ⟨d, hdm, hdo⟩ := hds' i hit
      refine wpOp_step ho (fun K' hK => H K' (fun a' v W' ha hb hv hnw => hK _ _ ⟨fun _ => hSk _ _ hb hSW, ?_⟩))
      have hdst : o.dst = some d := by rw [← hdo]; simp [dstOf, ho]
      rw [ha, lset_step todo g hit, hdst, putAll_upd dl a0 hd (hT ▸ hnd) hdm]
      refine ih _ _ W' (by have := count_step hgi todo hnd hit; omega) (hSk _ _ hb hSW) (blw_trans hB hb) (fun j hj hgj => ?_) (fun j k haj hak hj hk hgj hgk hjk => ?_) (fun j hj hgj k hk => ?_)
      · by_cases hji : j = i
        · subst hji
          rw [show upd f j v j = v from if_pos rfl]
          exact hv
        · rw [show upd f i v j = f j from if_neg hji]
          refine (hΦ.out todo j).out _ _ _ hb (hf j hj ?_)
          simpa [hji] using hgj
      · by_cases hji : j = i
        · have hki : ¬ k = i := fun e => hjk (hji.trans e.symm)
          have hgk' : g k = true := by simpa [hki] using hgk
          rw [show upd f i v k = f k from if_neg hki, show upd f i v j = v from if_pos hji]
          exact (newP_ne (hnw (hji ▸ haj)) (hA k hak _ _ (hf k hk hgk'))).symm
        · have hgj' : g j = true := by simpa [hji] using hgj
          rw [show upd f i v j = f j from if_neg hji]
          by_cases hki : k = i
          · rw [show upd f i v k = v from if_pos hki]
            exact newP_ne (hnw (hki ▸ hak)) (hA j haj _ _ (hf j hj hgj'))
          · rw [show upd f i v k = f k from if_neg hki]
            exact hnf j k haj hak hj hk hgj' (by simpa [hki] using hgk) hjk
      · by_cases hji : j = i
        · subst hji
          have := List.mem_filter.1 (hp k hk)
          exact ⟨this.1, by simp [this.2]⟩
        · have := hcl j hj (by simpa [hji] using hgj) k hk
          exact ⟨this.1, by simp [this.2]⟩
  have h0 := key todo.length (fun _ => false) (slotOf a0 dl) w (by simp) hS (Below.refl _ _) (fun _ _ h => nomatch h) (fun _ _ _ _ _ _ h => nomatch h) (fun _ _ h => nomatch h)
  rw [putAll_self a0 dl (slotOf_eq a0 dl (hT ▸ hnd))] at h0
  have hnil : todo.filter (fun _ => false) = [] := List.filter_eq_nil_iff.2 (fun _ _ => by simp)
  rw [hnil] at h0
  exact h0
theorem Ex.below {w W W' : World} {L : List Nat} (h : Below W.heap.size W W') (e : Ex w L W) : Ex w L W' :=
  have := Kp1.mk h
  inferInstance
end
/-- Kinds of what lasts. -/
def phiN (n k : Nat) (v : Value) (W : World) : Prop := ∃ a l c, v = .slice a l c ∧ CN W (.slice a l c) n k
def phiR (n k : Nat) (v : Value) (W : World) : Prop := ∃ a l c, v = .slice a l c ∧ CR W (.slice a l c) n k
/-- A box of type t with the cells l that was made after w0. -/
def phiB (w0 : World) (t : TypeId) (l : List Value) (v : Value) (W : World) : Prop := ∃ b, v = .pointer (some ⟨b, 0, none⟩) ∧ Bx W b t l ∧ Ge w0 b ∧ Gg w0 b
instance {n k : Nat} : Last (phiN n k) := ⟨fun _ _ _ hb ⟨a, l, c, e, _⟩ => have := Kp1.mk hb; ⟨a, l, c, e, inferInstance⟩⟩
instance {n k : Nat} : Last (phiR n k) := ⟨fun _ _ _ hb ⟨a, l, c, e, _⟩ => have := Kp1.mk hb; ⟨a, l, c, e, inferInstance⟩⟩
instance {w0 : World} {t : TypeId} {l : List Value} : Last (phiB w0 t l) := ⟨fun _ _ _ hb ⟨b, e, _, h1, h2⟩ => have := Kp1.mk hb; ⟨b, e, inferInstance, h1, h2⟩⟩
def phiV (v0 v : Value) (_ : World) : Prop := v = v0
instance {v0 : Value} : Last (phiV v0) := ⟨fun _ _ _ _ e => e⟩
theorem phiN.fin {n n' k k' : Nat} {a : Option Addr} {l c : Nat} {W : World} [h : CN W (.slice a l c) n' k'] (e : n' = n) (b : k' ≤ k) : phiN n k (.slice a l c) W := ⟨a, l, c, rfl, by subst e; exact ⟨h.out.mono b⟩⟩
theorem phiR.fin {n n' k k' : Nat} {a : Option Addr} {l c : Nat} {W : World} [h : CR W (.slice a l c) n' k'] (e : n' = n) (b : k' ≤ k) : phiR n k (.slice a l c) W := ⟨a, l, c, rfl, by subst e; exact ⟨h.out.mono b⟩⟩
theorem phiB.fin {w0 W : World} {t : TypeId} {l : List Value} {b : Nat} [h : Bx W b t l] [h1 : Ge w0 b] [h2 : Gg w0 b] : phiB w0 t l (.pointer (some ⟨b, 0, none⟩)) W := ⟨b, rfl, h, h1, h2⟩
theorem phiB.old {w0 W : World} {t : TypeId} {l : List Value} {v : Value} (h : phiB w0 t l v W) : OldP v W := by
  obtain ⟨b, e, h, _, _⟩ := h
  exact ⟨b, e, h.lt⟩
end Go.Proofs.YtdlnoeegboapkaaGreatDoor

/- Lines of package geo: from coefficients, from package api and back. printed by a small program (mkln2.py). -/
namespace Go.Proofs.YtdlnoeegboapkaaGreatDoor
open Go.RowKit
set_option maxRecDepth 100000
set_option maxHeartbeats 40000000
set_option synthInstance.maxSize 100000
set_option synthInstance.maxHeartbeats 1000000
set_option linter.unusedVariables false

theorem ret_bt {P : Program} {fn : Func} {R : Ending → World → Prop} {a : Act} {W : World} {b : Nat} {p u : Tmp} {ty t : TypeId} {d : TypeDesc} {l l' : List Value} [hb : Bx W b t l] (hr : fn.results = #[.cell p ty, .tmp u])
    (hu : P.underlying ty = some d) (hd : (match d with | .struct _ | .array _ _ => true | _ => false) = true) (hi : (P.info? ty).map (·.size) = some l.length)
    (hp : a.tmps.getD p undef = .pointer (some ⟨b, 0, none⟩)) (hdf : a.defers = []) (hl : l = l') (hR : R (.returned (.tuple #[.agg l'.toArray, a.tmps.getD u undef])) W) : bodyPost P fn R .ret a W := by
  subst hl
  exact ret_ct hr hp (loadVar_at W b ty l d hu hd hi (fun j hj => by rw [cell_bx, List.getElem?_eq_getElem hj])) hdf hR
def phiF (x : Rat) (k : Nat) (v : Value) (W : World) : Prop := ∃ n d p, v = .agg #[.int .i64 n, .int .i64 d, .pointer p] ∧ CF W (.agg #[.int .i64 n, .int .i64 d, .pointer p]) x k
instance {x : Rat} {k : Nat} : Last (phiF x k) := ⟨fun _ _ _ hb ⟨n, d, p, e, _⟩ => have := Kp1.mk hb; ⟨n, d, p, e, inferInstance⟩⟩
/-- A row of n elements that was made after w0. -/
def phiS (w0 : World) (t : TypeId) (l : List Value) (n : Nat) (v : Value) (W : World) : Prop := ∃ b, v = .slice (some ⟨b, 0, none⟩) n n ∧ Bx W b t l ∧ Ge w0 b ∧ Gg w0 b
instance {w0 : World} {t : TypeId} {l : List Value} {n : Nat} : Last (phiS w0 t l n) := ⟨fun _ _ _ hb ⟨b, e, _, h1, h2⟩ => have := Kp1.mk hb; ⟨b, e, inferInstance, h1, h2⟩⟩
theorem phiS.fin {w0 W : World} {t : TypeId} {l : List Value} {n b : Nat} [h : Bx W b t l] [h1 : Ge w0 b] [h2 : Gg w0 b] : phiS w0 t l n (.slice (some ⟨b, 0, none⟩) n n) W := ⟨b, rfl, h, h1, h2⟩
theorem phiF.fin {x x' : Rat} {k k' : Nat} {n d : Int} {p : Option Addr} {W : World} [h : CF W (.agg #[.int .i64 n, .int .i64 d, .pointer p]) x' k'] (e : x' = x) (b : k' ≤ k) : phiF x k (.agg #[.int .i64 n, .int .i64 d, .pointer p]) W := ⟨n, d, p, rfl, h.cast e b⟩
/-- A value of the kind LF and a Boolean are returned; nothing that was there has changed. -/
def LFBRet (w : World) (x y z : Rat) (v : Bool) (k : Nat) (e : Ending) (w' : World) : Prop := ∃ nx dx px ny dy py nz dz pz, e = .returned (.tuple #[.agg #[.int .i64 nx, .int .i64 dx, .pointer px, .int .i64 ny, .int .i64 dy, .pointer py, .int .i64 nz, .int .i64 dz, .pointer pz], .bool v]) ∧ CF w' (.agg #[.int .i64 nx, .int .i64 dx, .pointer px]) x k ∧ CF w' (.agg #[.int .i64 ny, .int .i64 dy, .pointer py]) y k ∧ CF w' (.agg #[.int .i64 nz, .int .i64 dz, .pointer pz]) z k ∧ Below w.heap.size w w'
theorem Calls.cLFB {P : Program} {f : FuncId} {args : Array Value} {w : World} {x y z : Rat} {v : Bool} {k : Nat} {K : Ending → World → Prop} (h : Calls P f args w (LFBRet w x y z v k))
    (hK : ∀ w' [Kp1 w w'] (nx : Int) (dx : Int) (px : Option Addr) (ny : Int) (dy : Int) (py : Option Addr) (nz : Int) (dz : Int) (pz : Option Addr) [CF w' (.agg #[.int .i64 nx, .int .i64 dx, .pointer px]) x k] [CF w' (.agg #[.int .i64 ny, .int .i64 dy, .pointer py]) y k] [CF w' (.agg #[.int .i64 nz, .int .i64 dz, .pointer pz]) z k], K (.returned (.tuple #[.agg #[.int .i64 nx, .int .i64 dx, .pointer px, .int .i64 ny, .int .i64 dy, .pointer py, .int .i64 nz, .int .i64 dz, .pointer pz], .bool v])) w') : Calls P f args w K := by
  refine h.mono ?_
  rintro e w' ⟨nx, dx, px, ny, dy, py, nz, dz, pz, rfl, hx, hy, hz, hb⟩
  exact @hK w' ⟨hb⟩ nx dx px ny dy py nz dz pz hx hy hz
theorem LFBRet.fin {w w' : World} {v : Bool} {nx : Int} {dx : Int} {px : Option Addr} {ny : Int} {dy : Int} {py : Option Addr} {nz : Int} {dz : Int} {pz : Option Addr} {x x' : Rat} {kx : Nat} {y y' : Rat} {ky : Nat} {z z' : Rat} {kz : Nat} {k : Nat} [b : Kp w w'] [hx : CF w' (.agg #[.int .i64 nx, .int .i64 dx, .pointer px]) x kx] [hy : CF w' (.agg #[.int .i64 ny, .int .i64 dy, .pointer py]) y ky] [hz : CF w' (.agg #[.int .i64 nz, .int .i64 dz, .pointer pz]) z kz] (ex : x = x') (mx : kx ≤ k) (ey : y = y') (my : ky ≤ k) (ez : z = z') (mz : kz ≤ k) : LFBRet w x' y' z' v k (.returned (.tuple #[.agg #[.int .i64 nx, .int .i64 dx, .pointer px, .int .i64 ny, .int .i64 dy, .pointer py, .int .i64 nz, .int .i64 dz, .pointer pz], .bool v])) w' :=
  ⟨_, _, _, _, _, _, _, _, _, rfl, hx.cast ex mx, hy.cast ey my, hz.cast ez mz, b.out⟩
/-- A value of the kind LZ and a Boolean are returned; nothing that was there has changed. -/
def LZBRet (w : World) (x y z : Int) (v : Bool) (k : Nat) (e : Ending) (w' : World) : Prop := ∃ gx ax lx cx gy ay ly cy gz az lz cz, e = .returned (.tuple #[.agg #[.bool gx, .slice ax lx cx, .bool gy, .slice ay ly cy, .bool gz, .slice az lz cz], .bool v]) ∧ CZ w' (.agg #[.bool gx, .slice ax lx cx]) x k ∧ CZ w' (.agg #[.bool gy, .slice ay ly cy]) y k ∧ CZ w' (.agg #[.bool gz, .slice az lz cz]) z k ∧ Below w.heap.size w w'
theorem Calls.cLZB {P : Program} {f : FuncId} {args : Array Value} {w : World} {x y z : Int} {v : Bool} {k : Nat} {K : Ending → World → Prop} (h : Calls P f args w (LZBRet w x y z v k))
    (hK : ∀ w' [Kp1 w w'] (gx : Bool) (ax : Option Addr) (lx : Nat) (cx : Nat) (gy : Bool) (ay : Option Addr) (ly : Nat) (cy : Nat) (gz : Bool) (az : Option Addr) (lz : Nat) (cz : Nat) [CZ w' (.agg #[.bool gx, .slice ax lx cx]) x k] [CZ w' (.agg #[.bool gy, .slice ay ly cy]) y k] [CZ w' (.agg #[.bool gz, .slice az lz cz]) z k], K (.returned (.tuple #[.agg #[.bool gx, .slice ax lx cx, .bool gy, .slice ay ly cy, .bool gz, .slice az lz cz], .bool v])) w') : Calls P f args w K := by
  refine h.mono ?_
  rintro e w' ⟨gx, ax, lx, cx, gy, ay, ly, cy, gz, az, lz, cz, rfl, hx, hy, hz, hb⟩
  exact @hK w' ⟨hb⟩ gx ax lx cx gy ay ly cy gz az lz cz hx hy hz
theorem LZBRet.fin {w w' : World} {v : Bool} {gx : Bool} {ax : Option Addr} {lx : Nat} {cx : Nat} {gy : Bool} {ay : Option Addr} {ly : Nat} {cy : Nat} {gz : Bool} {az : Option Addr} {lz : Nat} {cz : Nat} {x x' : Int} {kx : Nat} {y y' : Int} {ky : Nat} {z z' : Int} {kz : Nat} {k : Nat} [b : Kp w w'] [hx : CZ w' (.agg #[.bool gx, .slice ax lx cx]) x kx] [hy : CZ w' (.agg #[.bool gy, .slice ay ly cy]) y ky] [hz : CZ w' (.agg #[.bool gz, .slice az lz cz]) z kz] (ex : x = x') (mx : kx ≤ k) (ey : y = y') (my : ky ≤ k) (ez : z = z') (mz : kz ≤ k) : LZBRet w x' y' z' v k (.returned (.tuple #[.agg #[.bool gx, .slice ax lx cx, .bool gy, .slice ay ly cy, .bool gz, .slice az lz cz], .bool v])) w' :=
  ⟨_, _, _, _, _, _, _, _, _, _, _, _, rfl, hx.cast ex mx, hy.cast ey my, hz.cast ez mz, b.out⟩
/-- A value of the kind PF and a Boolean are returned; nothing that was there has changed. -/
def PFBRet (w : World) (x y : Rat) (v : Bool) (k : Nat) (e : Ending) (w' : World) : Prop := ∃ nx dx px ny dy py, e = .returned (.tuple #[.agg #[.int .i64 nx, .int .i64 dx, .pointer px, .int .i64 ny, .int .i64 dy, .pointer py], .bool v]) ∧ CF w' (.agg #[.int .i64 nx, .int .i64 dx, .pointer px]) x k ∧ CF w' (.agg #[.int .i64 ny, .int .i64 dy, .pointer py]) y k ∧ Below w.heap.size w w'
theorem Calls.cPFB {P : Program} {f : FuncId} {args : Array Value} {w : World} {x y : Rat} {v : Bool} {k : Nat} {K : Ending → World → Prop} (h : Calls P f args w (PFBRet w x y v k))
    (hK : ∀ w' [Kp1 w w'] (nx : Int) (dx : Int) (px : Option Addr) (ny : Int) (dy : Int) (py : Option Addr) [CF w' (.agg #[.int .i64 nx, .int .i64 dx, .pointer px]) x k] [CF w' (.agg #[.int .i64 ny, .int .i64 dy, .pointer py]) y k], K (.returned (.tuple #[.agg #[.int .i64 nx, .int .i64 dx, .pointer px, .int .i64 ny, .int .i64 dy, .pointer py], .bool v])) w') : Calls P f args w K := by
  refine h.mono ?_
  rintro e w' ⟨nx, dx, px, ny, dy, py, rfl, hx, hy, hb⟩
  exact @hK w' ⟨hb⟩ nx dx px ny dy py hx hy
theorem PFBRet.fin {w w' : World} {v : Bool} {nx : Int} {dx : Int} {px : Option Addr} {ny : Int} {dy : Int} {py : Option Addr} {x x' : Rat} {kx : Nat} {y y' : Rat} {ky : Nat} {k : Nat} [b : Kp w w'] [hx : CF w' (.agg #[.int .i64 nx, .int .i64 dx, .pointer px]) x kx] [hy : CF w' (.agg #[.int .i64 ny, .int .i64 dy, .pointer py]) y ky] (ex : x = x') (mx : kx ≤ k) (ey : y = y') (my : ky ≤ k) : PFBRet w x' y' v k (.returned (.tuple #[.agg #[.int .i64 nx, .int .i64 dx, .pointer px, .int .i64 ny, .int .i64 dy, .pointer py], .bool v])) w' :=
  ⟨_, _, _, _, _, _, rfl, hx.cast ex mx, hy.cast ey my, b.out⟩
/-- A value of the kind PA and a Boolean are returned; nothing that was there has changed. -/
def PABRet (w : World) (x y : Rat) (v : Bool) (k : Nat) (e : Ending) (w' : World) : Prop := ∃ gx ax lx cx aax llx ccx gy ay ly cy aay lly ccy, e = .returned (.tuple #[.agg #[.bool gx, .slice ax lx cx, .slice aax llx ccx, .bool gy, .slice ay ly cy, .slice aay lly ccy], .bool v]) ∧ CA w' (.agg #[.bool gx, .slice ax lx cx, .slice aax llx ccx]) x k ∧ CA w' (.agg #[.bool gy, .slice ay ly cy, .slice aay lly ccy]) y k ∧ Below w.heap.size w w'
theorem Calls.cPAB {P : Program} {f : FuncId} {args : Array Value} {w : World} {x y : Rat} {v : Bool} {k : Nat} {K : Ending → World → Prop} (h : Calls P f args w (PABRet w x y v k))
    (hK : ∀ w' [Kp1 w w'] (gx : Bool) (ax : Option Addr) (lx : Nat) (cx : Nat) (aax : Option Addr) (llx : Nat) (ccx : Nat) (gy : Bool) (ay : Option Addr) (ly : Nat) (cy : Nat) (aay : Option Addr) (lly : Nat) (ccy : Nat) [CA w' (.agg #[.bool gx, .slice ax lx cx, .slice aax llx ccx]) x k] [CA w' (.agg #[.bool gy, .slice ay ly cy, .slice aay lly ccy]) y k], K (.returned (.tuple #[.agg #[.bool gx, .slice ax lx cx, .slice aax llx ccx, .bool gy, .slice ay ly cy, .slice aay lly ccy], .bool v])) w') : Calls P f args w K := by
  refine h.mono ?_
  rintro e w' ⟨gx, ax, lx, cx, aax, llx, ccx, gy, ay, ly, cy, aay, lly, ccy, rfl, hx, hy, hb⟩
  exact @hK w' ⟨hb⟩ gx ax lx cx aax llx ccx gy ay ly cy aay lly ccy hx hy
theorem PABRet.fin {w w' : World} {v : Bool} {gx : Bool} {ax : Option Addr} {lx : Nat} {cx : Nat} {aax : Option Addr} {llx : Nat} {ccx : Nat} {gy : Bool} {ay : Option Addr} {ly : Nat} {cy : Nat} {aay : Option Addr} {lly : Nat} {ccy : Nat} {x x' : Rat} {kx : Nat} {y y' : Rat} {ky : Nat} {k : Nat} [b : Kp w w'] [hx : CA w' (.agg #[.bool gx, .slice ax lx cx, .slice aax llx ccx]) x kx] [hy : CA w' (.agg #[.bool gy, .slice ay ly cy, .slice aay lly ccy]) y ky] (ex : x = x') (mx : kx ≤ k) (ey : y = y') (my : ky ≤ k) : PABRet w x' y' v k (.returned (.tuple #[.agg #[.bool gx, .slice ax lx cx, .slice aax llx ccx, .bool gy, .slice ay ly cy, .slice aay lly ccy], .bool v])) w' :=
  ⟨_, _, _, _, _, _, _, _, _, _, _, _, _, _, rfl, hx.cast ex mx, hy.cast ey my, b.out⟩
instance (priority := low) CF.zz {W : World} : CF W (.agg #[.int .i64 0, .int .i64 0, .pointer none]) 0 2 := CF.zero (by omega)
theorem rZeroV {w : World} {v : Bool} {n1 d1 : Int} {p1 : Option Addr} {x : Rat} {k1 : Nat} [h1 : CF w (.agg #[.int .i64 n1, .int .i64 d1, .pointer p1]) x k1] (hv : Hid (decide (x = 0) = v)) :
    Calls Tryz.prog 225 #[.agg #[.int .i64 n1, .int .i64 d1, .pointer p1]] w (fun e w' => e = .returned (.bool v) ∧ Below w.heap.size w w') := by
  rw [← hv.out]; exact rZeroC
theorem makeNo {w : World} {n1 d1 n2 d2 n3 d3 : Int} {p1 p2 p3 : Option Addr} {x y z : Rat} {k1 k2 k3 : Nat} [h1 : CF w (.agg #[.int .i64 n1, .int .i64 d1, .pointer p1]) x k1] [h2 : CF w (.agg #[.int .i64 n2, .int .i64 d2, .pointer p2]) y k2] [h3 : CF w (.agg #[.int .i64 n3, .int .i64 d3, .pointer p3]) z k3] (h0 : Hid (x = 0 ∧ y = 0)) :
    Calls Tryz.prog 267 #[.agg #[.int .i64 n1, .int .i64 d1, .pointer p1], .agg #[.int .i64 n2, .int .i64 d2, .pointer p2], .agg #[.int .i64 n3, .int .i64 d3, .pointer p3]] w (LFBRet w 0 0 0 false 2) := by
  have HX : Hid (decide (x = 0) = true) := decide_eq_true h0.out.1
  have HY : Hid (decide (y = 0) = true) := decide_eq_true h0.out.2
  go_enter Tryz.func267, Tryz.ntmps267
  go_wp2_with (first
    | (go_at_call 225; (with_reducible refine Calls.cE (rZeroV HX) ?_); intros)
    | (go_at_call 225; (with_reducible refine Calls.cE (rZeroV HY) ?_); intros))
  refine ret_bt rfl Tryz.underlying178 rfl (by kernel_rfl) rfl rfl rfl ?_
  exact LFBRet.fin rfl (by omega) rfl (by omega) rfl (by omega)

theorem makeOk {w : World} {n1 d1 n2 d2 n3 d3 : Int} {p1 p2 p3 : Option Addr} {x y z : Rat} {k1 k2 k3 : Nat} [h1 : CF w (.agg #[.int .i64 n1, .int .i64 d1, .pointer p1]) x k1] [h2 : CF w (.agg #[.int .i64 n2, .int .i64 d2, .pointer p2]) y k2] [h3 : CF w (.agg #[.int .i64 n3, .int .i64 d3, .pointer p3]) z k3] (b : k1 ≤ 10000 ∧ k2 ≤ 10000 ∧ k3 ≤ 10000) (h0 : Hid (¬ (x = 0 ∧ y = 0))) :
    Calls Tryz.prog 267 #[.agg #[.int .i64 n1, .int .i64 d1, .pointer p1], .agg #[.int .i64 n2, .int .i64 d2, .pointer p2], .agg #[.int .i64 n3, .int .i64 d3, .pointer p3]] w (LFBRet w (lnK x x y z) (lnK y x y z) (lnK z x y z) true (2 * (k1 + k2 + k3) + 60)) := by
  have hm : ∀ (v : Value) (W : World), (Go.method 500 147 v "Mul").run Tryz.prog W = .ok (213, v) W := fun _ _ => by kernel_rfl
  obtain ⟨u, hu⟩ : ∃ u, decide (x = 0) = u := ⟨_, rfl⟩
  have HX := Lib.hid hu
  have HY : Hid (u = true → decide (y = 0) = false) := fun e => decide_eq_false (fun h => h0.out ⟨of_decide_eq_true (hu.trans e), h⟩)
  clear hu
  go_enter Tryz.func267, Tryz.ntmps267
  go_upto_region 1 with fail
  go_cut [14] from 9 to 14 (fun t wx => t = .bool false ∧ Bx wx w.heap.size 147 [.int .i64 n1, .int .i64 d1, .pointer p1] ∧ Bx wx (w.heap.size + 1) 147 [.int .i64 n2, .int .i64 d2, .pointer p2] ∧ Bx wx (w.heap.size + 1 + 1) 147 [.int .i64 n3, .int .i64 d3, .pointer p3] ∧ Bx wx (w.heap.size + 1 + 1 + 1) 178 [.int .i64 0, .int .i64 0, .pointer none, .int .i64 0, .int .i64 0, .pointer none, .int .i64 0, .int .i64 0, .pointer none] ∧ CF wx (.agg #[.int .i64 n1, .int .i64 d1, .pointer p1]) x k1 ∧ CF wx (.agg #[.int .i64 n2, .int .i64 d2, .pointer p2]) y k2 ∧ CF wx (.agg #[.int .i64 n3, .int .i64 d3, .pointer p3]) z k3 ∧ Kp w wx)
  case first =>
    cases u with
    | true =>
      have HY' := Lib.hid (HY.out rfl)
      clear HY
      go_wp2_with (first
        | (go_at_call 225; (with_reducible refine Calls.cE (rZeroV HX) ?_); intros)
        | (go_at_call 225; (with_reducible refine Calls.cE (rZeroV HY') ?_); intros))
      go_meet
      exact ⟨rfl, inferInstance, inferInstance, inferInstance, inferInstance, inferInstance, inferInstance, inferInstance, inferInstance⟩
    | false =>
      go_wp2_with (first
        | (go_at_call 225; (with_reducible refine Calls.cE (rZeroV HX) ?_); intros))
      go_meet
      exact ⟨rfl, inferInstance, inferInstance, inferInstance, inferInstance, inferInstance, inferInstance, inferInstance, inferInstance⟩
  case rest =>
    obtain ⟨rfl, i1, i2, i3, i4, i5, i6, i7, i8⟩ := hcut
    clear HX HY
    go_wp2_with fail
    refine rgn [] [] fun hHeld => ?_
    refine tk 0 hHeld ?_
    refine tk 1 hHeld ?_
    refine tk 3 hHeld ?_
    refine tk 6 hHeld ?_
    refine tk 7 hHeld ?_
    refine tk 8 hHeld ?_
    refine wpAnyT_inv [(2, 18), (4, 20), (5, 21), (9, 25)] (fun i => match i with | 2 => [] | 4 => [2] | 5 => [4] | 9 => [] | _ => []) [phiF (rgcd x y) (k1 + k2 + 6), phiF (rgcd (rgcd x y) z) (k1 + k2 + k3 + 12), phiF (rgcd (rgcd x y) z)⁻¹ (k1 + k2 + k3 + 14), phiS wc 147 [.int .i64 n1, .int .i64 d1, .pointer p1, .int .i64 n2, .int .i64 d2, .pointer p2, .int .i64 n3, .int .i64 d3, .pointer p3] 3] [] 2 (by rfl) (by decide +kernel) (by decide) (by decide) (by kernel_rfl) ?_ (fun _ _ => Ex.below) hHeld ?_ ?_
    · exact fun i hi => nomatch hi
    · intro i hi f W hSw hbw hp
      have kw := Kp1.mk hbw
      have hSx := Ex1.mk hSw
      clear hHeld
      simp only [List.map_cons, List.map_nil, List.mem_cons, List.not_mem_nil, or_false] at hi
      rcases hi with rfl | rfl | rfl | rfl
      · refine ⟨_, by simp; rfl, fun K' hK => ?_⟩
        clear hp
        simp only [putAll, Act.put, List.setIfInBounds_toArray, List.set_cons_zero, List.set_cons_succ] at hK ⊢
        generalize f 2 = v2 at *
        generalize f 4 = v4 at *
        generalize f 5 = v5 at *
        generalize f 9 = v9 at *
        go_simp
        (with_reducible refine Calls.cF (fracGcdC (by omega)) ?_); intros
        refine hK.out _ _ _ rfl (inferInstance : Kp W _).out ?_ ?_
        · exact phiF.fin rfl (by omega)
        · exact fun h => absurd h (by decide)
      · have h2 : phiF (rgcd x y) (k1 + k2 + 6) (f 2) W := hp 2 (by decide)
        refine ⟨_, by simp; rfl, fun K' hK => ?_⟩
        clear hp
        simp only [putAll, Act.put, List.setIfInBounds_toArray, List.set_cons_zero, List.set_cons_succ] at hK ⊢
        generalize f 2 = v2 at *
        generalize f 4 = v4 at *
        generalize f 5 = v5 at *
        generalize f 9 = v9 at *
        obtain ⟨n2, d2, p2, rfl, i2⟩ := h2
        go_simp
        (with_reducible refine Calls.cF (fracGcdC (by omega)) ?_); intros
        refine hK.out _ _ _ rfl (inferInstance : Kp W _).out ?_ ?_
        · exact phiF.fin rfl (by omega)
        · exact fun h => absurd h (by decide)
      · have h4 : phiF (rgcd (rgcd x y) z) (k1 + k2 + k3 + 12) (f 4) W := hp 4 (by decide)
        refine ⟨_, by simp; rfl, fun K' hK => ?_⟩
        clear hp
        simp only [putAll, Act.put, List.setIfInBounds_toArray, List.set_cons_zero, List.set_cons_succ] at hK ⊢
        generalize f 2 = v2 at *
        generalize f 4 = v4 at *
        generalize f 5 = v5 at *
        generalize f 9 = v9 at *
        obtain ⟨n4, d4, p4, rfl, i4⟩ := h4
        go_simp
        (with_reducible refine Calls.cF (rInvC (by omega)) ?_); intros
        refine hK.out _ _ _ rfl (inferInstance : Kp W _).out ?_ ?_
        · exact phiF.fin rfl (by omega)
        · exact fun h => absurd h (by decide)
      · refine ⟨_, by simp; rfl, fun K' hK => ?_⟩
        clear hp
        simp only [putAll, Act.put, List.setIfInBounds_toArray, List.set_cons_zero, List.set_cons_succ] at hK ⊢
        generalize f 2 = v2 at *
        generalize f 4 = v4 at *
        generalize f 5 = v5 at *
        generalize f 9 = v9 at *
        go_simp
        refine hK.out _ _ _ rfl (inferInstance : Kp W _).out ?_ ?_
        · exact phiS.fin
        · exact fun h => absurd h (by decide)
    · intro f W hSw hbw hf hne
      have kw := Kp1.mk hbw
      have hSx := Ex1.mk hSw
      clear hHeld
      have h2 : phiF (rgcd x y) (k1 + k2 + 6) (f 2) W := hf 2 (by decide)
      have h4 : phiF (rgcd (rgcd x y) z) (k1 + k2 + k3 + 12) (f 4) W := hf 4 (by decide)
      have h5 : phiF (rgcd (rgcd x y) z)⁻¹ (k1 + k2 + k3 + 14) (f 5) W := hf 5 (by decide)
      have h9 : phiS wc 147 [.int .i64 n1, .int .i64 d1, .pointer p1, .int .i64 n2, .int .i64 d2, .pointer p2, .int .i64 n3, .int .i64 d3, .pointer p3] 3 (f 9) W := hf 9 (by decide)
      clear hf hne
      simp only [putAll, lset, List.map_cons, List.map_nil, Act.put, List.setIfInBounds_toArray, List.set_cons_zero, List.set_cons_succ]
      generalize f 2 = v2 at *
      generalize f 4 = v4 at *
      generalize f 5 = v5 at *
      generalize f 9 = v9 at *
      obtain ⟨n2, d2, p2, rfl, i2⟩ := h2
      obtain ⟨n4, d4, p4, rfl, i4⟩ := h4
      obtain ⟨n5, d5, p5, rfl, i5⟩ := h5
      obtain ⟨b9, rfl, i9, j9, k9⟩ := h9
      have hl4 := Bx.lt (W := wc) (b := w.heap.size + 1 + 1 + 1) inferInstance
      have nn : NeN b9 (w.heap.size + 1 + 1 + 1) := ⟨by have h1 := j9.out; omega⟩
      clear hl4
      have gw : Ge w b9 := ⟨by have h1 := j9.out; have h2 := i8.out.size; omega⟩
      have hHeld := hSw
      refine st 10 fun K hK => ?_
      go_simp
      go_enter Tryz.func289, Tryz.ntmps289
      go_wp2_with fail
      refine wp_loop_rounds 4 ?_
      rw [rounds_succ]
      go_wp2_with fail
      refine rgn [] [10] fun hHeld => ?_
      refine tk 0 hHeld ?_
      refine tk 1 hHeld ?_
      refine tk 2 hHeld ?_
      refine tk 3 hHeld ?_
      refine tk 4 hHeld ?_
      refine tk 5 hHeld ?_
      refine tk 6 hHeld ?_
      refine tk 7 hHeld ?_
      refine st 8 fun K hK => ?_
      go_simp
      (go_at_call 213; (with_reducible refine Calls.cF (rMulC (by omega)) ?_); intros)
      refine hd hK ?_
      clear hHeld hK
      intro hHeld
      refine tk 9 hHeld ?_
      refine st 10 fun K hK => ?_
      go_simp
      refine hdT hK ?_
      clear hK K
      refine dn ?_
      clear hHeld
      go_wp2_with fail
      rw [rounds_succ]
      go_wp2_with fail
      refine rgn [] [10] fun hHeld => ?_
      refine tk 0 hHeld ?_
      refine tk 1 hHeld ?_
      refine tk 2 hHeld ?_
      refine tk 3 hHeld ?_
      refine tk 4 hHeld ?_
      refine tk 5 hHeld ?_
      refine tk 6 hHeld ?_
      refine tk 7 hHeld ?_
      refine st 8 fun K hK => ?_
      go_simp
      (go_at_call 213; (with_reducible refine Calls.cF (rMulC (by omega)) ?_); intros)
      refine hd hK ?_
      clear hHeld hK
      intro hHeld
      refine tk 9 hHeld ?_
      refine st 10 fun K hK => ?_
      go_simp
      refine hdT hK ?_
      clear hK K
      refine dn ?_
      clear hHeld
      go_wp2_with fail
      rw [rounds_succ]
      go_wp2_with fail
      refine rgn [] [10] fun hHeld => ?_
      refine tk 0 hHeld ?_
      refine tk 1 hHeld ?_
      refine tk 2 hHeld ?_
      refine tk 3 hHeld ?_
      refine tk 4 hHeld ?_
      refine tk 5 hHeld ?_
      refine tk 6 hHeld ?_
      refine tk 7 hHeld ?_
      refine st 8 fun K hK => ?_
      go_simp
      (go_at_call 213; (with_reducible refine Calls.cF (rMulC (by omega)) ?_); intros)
      refine hd hK ?_
      clear hHeld hK
      intro hHeld
      refine tk 9 hHeld ?_
      refine st 10 fun K hK => ?_
      go_simp
      refine hdT hK ?_
      clear hK K
      refine dn ?_
      clear hHeld
      go_wp2_with fail
      rw [rounds_succ]
      go_wp2_with fail
      go_simp
      refine hd hK ?_
      clear hHeld hK
      intro hHeld
      refine tk 11 hHeld ?_
      refine dn ?_
      clear hHeld
      go_wp2_with fail
      refine rgn [] [10, 11] fun hHeld => ?_
      refine tk 0 hHeld ?_
      refine tk 1 hHeld ?_
      refine tk 2 hHeld ?_
      refine tk 3 hHeld ?_
      refine tk 4 hHeld ?_
      refine tk 5 hHeld ?_
      refine tk 6 hHeld ?_
      refine tk 7 hHeld ?_
      refine tk 8 hHeld ?_
      refine tk 9 hHeld ?_
      refine st 10 fun K hK => ?_
      go_simp
      refine hdT hK ?_
      clear hK K
      refine tk0 11 ?_
      refine dn ?_
      clear hHeld
      go_wp2_with fail
      refine ret_bt rfl Tryz.underlying178 rfl (by kernel_rfl) rfl rfl rfl ?_
      exact LFBRet.fin rfl (by omega) rfl (by omega) rfl (by omega)

end Go.Proofs.YtdlnoeegboapkaaGreatDoor

/- Package line: lines of package api are read and written; the functions of one line. printed by a small program (mkln3.py). -/
namespace Go.Proofs.YtdlnoeegboapkaaGreatDoor
open Go.RowKit
set_option maxRecDepth 100000
set_option maxHeartbeats 40000000
set_option synthInstance.maxSize 100000
set_option synthInstance.maxHeartbeats 1000000
set_option linter.unusedVariables false

theorem RL.ofZ {w : World} {g : Bool} {a : Option Addr} {l c : Nat} {z : Int} {k : Nat} (h : CZ w (.agg #[.bool g, .slice a l c]) z k) : RL w (.slice a l c) (nf z.natAbs) := ⟨(zz_of h).2.1⟩
theorem nrm_z {w : World} {g : Bool} {a : Option Addr} {l c : Nat} {z : Int} {k : Nat} (h : CZ w (.agg #[.bool g, .slice a l c]) z k) : nrmI g (nf z.natAbs) = true := by
  have hg := (zz_of h).1
  unfold nrmI
  rw [normalB_nfx, Bool.true_and]
  by_cases hz : z < 0
  · have : 0 < (nf z.natAbs).length := nf_len_pos (by omega)
    simp [this]
  · rw [hg, decide_eq_false hz]; rfl
theorem neg_int (a : Int) : (-((a : Int) : Rat)).num = -a := by rw [Rat.neg_num]; rfl
theorem intNormalC {w : World} {g : Bool} {a : Option Addr} {l c : Nat} {z : Int} {k : Nat} [h : CZ w (.agg #[.bool g, .slice a l c]) z k] :
    Calls Tryz.prog 262 #[.agg #[.bool g, .slice a l c]] w fun e w' => e = .returned (.bool true) ∧ Below w.heap.size w w' := by
  have i := RL.ofZ h
  exact intNormalL (L := nf z.natAbs) (Lib.hid (nrm_z h))
theorem rEqualV {w : World} {v : Bool} {n1 d1 n2 d2 : Int} {p1 p2 : Option Addr} {x y : Rat} {k1 k2 : Nat} [h1 : CF w (.agg #[.int .i64 n1, .int .i64 d1, .pointer p1]) x k1] [h2 : CF w (.agg #[.int .i64 n2, .int .i64 d2, .pointer p2]) y k2] (b : k1 ≤ 50000 ∧ k2 ≤ 50000) (hv : Hid (decide (x = y) = v)) :
    Calls Tryz.prog 167 #[.agg #[.int .i64 n1, .int .i64 d1, .pointer p1], .agg #[.int .i64 n2, .int .i64 d2, .pointer p2]] w (fun e w' => e = .returned (.bool v) ∧ Below w.heap.size w w') := by
  rw [← hv.out]; exact rEqualC (by omega)
theorem lnApiC {w : World} {n1x d1x n1y d1y n1z d1z : Int} {p1x p1y p1z : Option Addr} {la lb lc : Rat} {k1x k1y k1z : Nat} [h1x : CF w (.agg #[.int .i64 n1x, .int .i64 d1x, .pointer p1x]) la k1x] [h1y : CF w (.agg #[.int .i64 n1y, .int .i64 d1y, .pointer p1y]) lb k1y] [h1z : CF w (.agg #[.int .i64 n1z, .int .i64 d1z, .pointer p1z]) lc k1z] (b : k1x ≤ 300000 ∧ k1y ≤ 300000 ∧ k1z ≤ 300000) :
    Calls Tryz.prog 205 #[.agg #[.int .i64 n1x, .int .i64 d1x, .pointer p1x, .int .i64 n1y, .int .i64 d1y, .pointer p1y, .int .i64 n1z, .int .i64 d1z, .pointer p1z]] w (CLZRet w (la.num) (lb.num) (lc.num) (max k1x (max k1y k1z))) := by
  go_enter Tryz.func205, Tryz.ntmps205
  go_wp2_with fail
  refine rgn [w.heap.size + 1] [] fun hHeld => ?_
  refine tk 0 hHeld ?_
  refine tk 1 hHeld ?_
  refine tk 3 hHeld ?_
  refine tk 4 hHeld ?_
  refine tk 6 hHeld ?_
  refine tk 7 hHeld ?_
  refine st 2 fun K hK => ?_
  go_simp
  (with_reducible refine Calls.cZ (rNumC (by omega)) ?_); intros
  refine hd hK ?_
  clear hHeld hK K
  intro hHeld
  refine st 5 fun K hK => ?_
  go_simp
  (with_reducible refine Calls.cZ (rNumC (by omega)) ?_); intros
  refine hd hK ?_
  clear hHeld hK K
  intro hHeld
  refine st 8 fun K hK => ?_
  go_simp
  (with_reducible refine Calls.cZ (rNumC (by omega)) ?_); intros
  refine hd hK ?_
  clear hHeld hK K
  intro hHeld
  refine tk 9 hHeld ?_
  refine st 10 fun K hK => ?_
  go_simp
  refine hd hK ?_
  clear hHeld hK K
  intro hHeld
  refine dn ?_
  clear hHeld
  go_wp2
  refine ret_bx rfl Tryz.underlying156 rfl (by kernel_rfl) rfl rfl rfl ?_
  exact CLZRet.fin rfl (by omega) rfl (by omega) rfl (by omega)

end Go.Proofs.YtdlnoeegboapkaaGreatDoor

/- Package line: functions of two lines; lines from points and from coefficients. printed by a small program (mkln4.py). -/
namespace Go.Proofs.YtdlnoeegboapkaaGreatDoor
open Go.RowKit
set_option maxRecDepth 100000
set_option maxHeartbeats 40000000
set_option synthInstance.maxSize 100000
set_option synthInstance.maxHeartbeats 1000000
set_option linter.unusedVariables false

/-- The first number that is not 0. -/
def or3 (a b c : Int) : Int := if a = 0 then (if b = 0 then c else b) else a
/-- The order of lines. -/
def cmpL (a b c a' b' c' : Rat) : Int := or3 (isgn (a - a').num) (isgn (b - b').num) (isgn (c - c').num)
theorem cmpL_zero {a b c a' b' c' : Rat} : (cmpL a b c a' b' c' == 0) = decide (a = a' ∧ b = b' ∧ c = c') := by
  rw [Bool.eq_iff_iff, beq_iff_eq, decide_eq_true_eq]
  unfold cmpL or3
  have e : ∀ x y : Rat, isgn (x - y).num = 0 ↔ x = y := fun x y => by
    have := @isgn_dec x y
    rw [Bool.eq_iff_iff, beq_iff_eq, decide_eq_true_eq] at this; exact this
  by_cases h1 : isgn (a - a').num = 0
  · rw [if_pos h1]
    by_cases h2 : isgn (b - b').num = 0
    · rw [if_pos h2, e]
      exact ⟨fun h => ⟨(e _ _).1 h1, (e _ _).1 h2, h⟩, fun h => h.2.2⟩
    · rw [if_neg h2]
      exact ⟨fun h => absurd h h2, fun h => absurd ((e _ _).2 h.2.1) h2⟩
  · rw [if_neg h1]
    exact ⟨fun h => absurd h h1, fun h => absurd ((e _ _).2 h.1) h1⟩
theorem or3C {w : World} {q : Nat} {a b c : Int} [h : Bx w q 3 [.int .i64 a, .int .i64 b, .int .i64 c]] : Calls Tryz.prog 293 #[.slice (some ⟨q, 0, none⟩) 3 3] w fun e w' => e = .returned (.int .i64 (or3 a b c)) ∧ Below w.heap.size w w' := by
  by_cases h0 : a = 0
  · subst h0
    by_cases h1 : b = 0
    · subst h1
      by_cases h2 : c = 0
      · subst h2
        have HE : Hid (or3 0 0 0 = 0) := by show _ = _; simp [or3]
        go_enter Tryz.func293, Tryz.ntmps293
        go_wp2_with fail
        refine wp_loop_rounds 4 ?_
        rw [rounds_succ]
        go_wp2_with fail
        rw [rounds_succ]
        go_wp2_with fail
        rw [rounds_succ]
        go_wp2_with fail
        rw [rounds_succ]
        go_wp2_with fail
        go_ret
        exact E.fin (by rw [HE.out]; rfl)
      · have q2 : (c == 0) = false := by rw [beq_eq_false_iff_ne]; exact h2
        have HE : Hid (or3 0 0 c = c) := by show _ = _; simp [or3]
        go_enter Tryz.func293, Tryz.ntmps293
        go_wp2_with fail
        refine wp_loop_rounds 3 ?_
        rw [rounds_succ]
        go_wp2_with fail
        rw [rounds_succ]
        go_wp2_with fail
        rw [rounds_succ]
        go_wp2_with fail
        go_ret
        exact E.fin (by rw [HE.out]; rfl)
    · have q1 : (b == 0) = false := by rw [beq_eq_false_iff_ne]; exact h1
      have HE : Hid (or3 0 b c = b) := by show _ = _; simp [or3, h1]
      go_enter Tryz.func293, Tryz.ntmps293
      go_wp2_with fail
      refine wp_loop_rounds 2 ?_
      rw [rounds_succ]
      go_wp2_with fail
      rw [rounds_succ]
      go_wp2_with fail
      go_ret
      exact E.fin (by rw [HE.out]; rfl)
  · have q0 : (a == 0) = false := by rw [beq_eq_false_iff_ne]; exact h0
    have HE : Hid (or3 a b c = a) := by show _ = _; simp [or3, h0]
    go_enter Tryz.func293, Tryz.ntmps293
    go_wp2_with fail
    refine wp_loop_rounds 1 ?_
    rw [rounds_succ]
    go_wp2_with fail
    go_ret
    exact E.fin (by rw [HE.out]; rfl)

theorem or2C {w : World} {q : Nat} {a b : Int} [h : Bx w q 3 [.int .i64 a, .int .i64 b]] : Calls Tryz.prog 293 #[.slice (some ⟨q, 0, none⟩) 2 2] w fun e w' => e = .returned (.int .i64 (or3 a b 0)) ∧ Below w.heap.size w w' := by
  by_cases h0 : a = 0
  · subst h0
    by_cases h1 : b = 0
    · subst h1
      have HE : Hid (or3 0 0 0 = 0) := by show _ = _; simp [or3]
      go_enter Tryz.func293, Tryz.ntmps293
      go_wp2_with fail
      refine wp_loop_rounds 3 ?_
      rw [rounds_succ]
      go_wp2_with fail
      rw [rounds_succ]
      go_wp2_with fail
      rw [rounds_succ]
      go_wp2_with fail
      go_ret
      exact E.fin (by rw [HE.out]; rfl)
    · have q1 : (b == 0) = false := by rw [beq_eq_false_iff_ne]; exact h1
      have HE : Hid (or3 0 b 0 = b) := by show _ = _; simp [or3, h1]
      go_enter Tryz.func293, Tryz.ntmps293
      go_wp2_with fail
      refine wp_loop_rounds 2 ?_
      rw [rounds_succ]
      go_wp2_with fail
      rw [rounds_succ]
      go_wp2_with fail
      go_ret
      exact E.fin (by rw [HE.out]; rfl)
  · have q0 : (a == 0) = false := by rw [beq_eq_false_iff_ne]; exact h0
    have HE : Hid (or3 a b 0 = a) := by show _ = _; simp [or3, h0]
    go_enter Tryz.func293, Tryz.ntmps293
    go_wp2_with fail
    refine wp_loop_rounds 1 ?_
    rw [rounds_succ]
    go_wp2_with fail
    go_ret
    exact E.fin (by rw [HE.out]; rfl)

theorem lnCmpC {w : World} {n1x d1x n1y d1y n1z d1z n2x d2x n2y d2y n2z d2z : Int} {p1x p1y p1z p2x p2y p2z : Option Addr} {la lb lc ma mb mc : Rat} {k1x k1y k1z k2x k2y k2z : Nat} [h1x : CF w (.agg #[.int .i64 n1x, .int .i64 d1x, .pointer p1x]) la k1x] [h1y : CF w (.agg #[.int .i64 n1y, .int .i64 d1y, .pointer p1y]) lb k1y] [h1z : CF w (.agg #[.int .i64 n1z, .int .i64 d1z, .pointer p1z]) lc k1z] [h2x : CF w (.agg #[.int .i64 n2x, .int .i64 d2x, .pointer p2x]) ma k2x] [h2y : CF w (.agg #[.int .i64 n2y, .int .i64 d2y, .pointer p2y]) mb k2y] [h2z : CF w (.agg #[.int .i64 n2z, .int .i64 d2z, .pointer p2z]) mc k2z] (b : k1x ≤ 40000 ∧ k1y ≤ 40000 ∧ k1z ≤ 40000 ∧ k2x ≤ 40000 ∧ k2y ≤ 40000 ∧ k2z ≤ 40000) :
    Calls Tryz.prog 275 #[.agg #[.int .i64 n1x, .int .i64 d1x, .pointer p1x, .int .i64 n1y, .int .i64 d1y, .pointer p1y, .int .i64 n1z, .int .i64 d1z, .pointer p1z], .agg #[.int .i64 n2x, .int .i64 d2x, .pointer p2x, .int .i64 n2y, .int .i64 d2y, .pointer p2y, .int .i64 n2z, .int .i64 d2z, .pointer p2z]] w (fun e w' => e = .returned (.int .i64 (cmpL la lb lc ma mb mc)) ∧ Below w.heap.size w w') := by
  go_enter Tryz.func275, Tryz.ntmps275
  go_wp2_with fail
  refine rgn [] [] fun hHeld => ?_
  refine tk 0 hHeld ?_
  refine tk 1 hHeld ?_
  refine tk 2 hHeld ?_
  refine tk 3 hHeld ?_
  refine tk 5 hHeld ?_
  refine tk 6 hHeld ?_
  refine tk 7 hHeld ?_
  refine tk 8 hHeld ?_
  refine tk 10 hHeld ?_
  refine tk 11 hHeld ?_
  refine tk 12 hHeld ?_
  refine tk 13 hHeld ?_
  refine st 4 fun K hK => ?_
  go_simp
  (with_reducible refine Calls.cE (rCmpC (by omega)) ?_); intros
  refine hd hK ?_
  clear hHeld hK K
  intro hHeld
  refine st 9 fun K hK => ?_
  go_simp
  (with_reducible refine Calls.cE (rCmpC (by omega)) ?_); intros
  refine hd hK ?_
  clear hHeld hK K
  intro hHeld
  refine st 14 fun K hK => ?_
  go_simp
  (with_reducible refine Calls.cE (rCmpC (by omega)) ?_); intros
  refine hd hK ?_
  clear hHeld hK K
  intro hHeld
  refine st 15 fun K hK => ?_
  go_simp
  refine hd hK ?_
  clear hHeld hK K
  intro hHeld
  refine st 16 fun K hK => ?_
  go_simp
  (with_reducible refine Calls.cE (or3C) ?_); intros
  refine hd hK ?_
  clear hHeld hK K
  intro hHeld
  refine tk 17 hHeld ?_
  refine dn ?_
  clear hHeld
  go_wp2
  go_ret
  exact E.fin rfl

theorem lnEqualC {w : World} {n1x d1x n1y d1y n1z d1z n2x d2x n2y d2y n2z d2z : Int} {p1x p1y p1z p2x p2y p2z : Option Addr} {la lb lc ma mb mc : Rat} {k1x k1y k1z k2x k2y k2z : Nat} [h1x : CF w (.agg #[.int .i64 n1x, .int .i64 d1x, .pointer p1x]) la k1x] [h1y : CF w (.agg #[.int .i64 n1y, .int .i64 d1y, .pointer p1y]) lb k1y] [h1z : CF w (.agg #[.int .i64 n1z, .int .i64 d1z, .pointer p1z]) lc k1z] [h2x : CF w (.agg #[.int .i64 n2x, .int .i64 d2x, .pointer p2x]) ma k2x] [h2y : CF w (.agg #[.int .i64 n2y, .int .i64 d2y, .pointer p2y]) mb k2y] [h2z : CF w (.agg #[.int .i64 n2z, .int .i64 d2z, .pointer p2z]) mc k2z] (b : k1x ≤ 30000 ∧ k1y ≤ 30000 ∧ k1z ≤ 30000 ∧ k2x ≤ 30000 ∧ k2y ≤ 30000 ∧ k2z ≤ 30000) :
    Calls Tryz.prog 221 #[.agg #[.int .i64 n1x, .int .i64 d1x, .pointer p1x, .int .i64 n1y, .int .i64 d1y, .pointer p1y, .int .i64 n1z, .int .i64 d1z, .pointer p1z], .agg #[.int .i64 n2x, .int .i64 d2x, .pointer p2x, .int .i64 n2y, .int .i64 d2y, .pointer p2y, .int .i64 n2z, .int .i64 d2z, .pointer p2z]] w (fun e w' => e = .returned (.bool (decide (la = ma ∧ lb = mb ∧ lc = mc))) ∧ Below w.heap.size w w') := by
  have HE := Lib.hid (@cmpL_zero la lb lc ma mb mc)
  go_enter Tryz.func221, Tryz.ntmps221
  go_wp2_with (first
    | (go_at_call 275; (with_reducible refine Calls.cE (lnCmpC (by omega)) ?_); intros))
  go_ret
  exact E.fin (by rw [← HE.out]; rfl)

theorem lnEqualV {w : World} {v : Bool} {n1x d1x n1y d1y n1z d1z n2x d2x n2y d2y n2z d2z : Int} {p1x p1y p1z p2x p2y p2z : Option Addr} {la lb lc ma mb mc : Rat} {k1x k1y k1z k2x k2y k2z : Nat} [h1x : CF w (.agg #[.int .i64 n1x, .int .i64 d1x, .pointer p1x]) la k1x] [h1y : CF w (.agg #[.int .i64 n1y, .int .i64 d1y, .pointer p1y]) lb k1y] [h1z : CF w (.agg #[.int .i64 n1z, .int .i64 d1z, .pointer p1z]) lc k1z] [h2x : CF w (.agg #[.int .i64 n2x, .int .i64 d2x, .pointer p2x]) ma k2x] [h2y : CF w (.agg #[.int .i64 n2y, .int .i64 d2y, .pointer p2y]) mb k2y] [h2z : CF w (.agg #[.int .i64 n2z, .int .i64 d2z, .pointer p2z]) mc k2z] (b : k1x ≤ 30000 ∧ k1y ≤ 30000 ∧ k1z ≤ 30000 ∧ k2x ≤ 30000 ∧ k2y ≤ 30000 ∧ k2z ≤ 30000) (hv : Hid (decide (la = ma ∧ lb = mb ∧ lc = mc) = v)) :
    Calls Tryz.prog 221 #[.agg #[.int .i64 n1x, .int .i64 d1x, .pointer p1x, .int .i64 n1y, .int .i64 d1y, .pointer p1y, .int .i64 n1z, .int .i64 d1z, .pointer p1z], .agg #[.int .i64 n2x, .int .i64 d2x, .pointer p2x, .int .i64 n2y, .int .i64 d2y, .pointer p2y, .int .i64 n2z, .int .i64 d2z, .pointer p2z]] w (fun e w' => e = .returned (.bool v) ∧ Below w.heap.size w w') := by
  rw [← hv.out]; exact lnEqualC b
end Go.Proofs.YtdlnoeegboapkaaGreatDoor
