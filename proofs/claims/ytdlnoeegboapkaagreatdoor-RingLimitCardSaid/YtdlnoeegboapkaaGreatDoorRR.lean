/-
  Texts of this claim, joined: Ord2, Rg1, Rgv, Sr, Rg5, Rgs.
-/
import Derived.Test.YtdlnoeegboapkaaGreatDoorRP
import Derived.Test.YtdlnoeegboapkaaGreatDoorRO
import Derived.Test.YtdlnoeegboapkaaGreatDoorRI
import Derived.Test.YtdlnoeegboapkaaGreatDoorRows
import Derived.LaidMore
import Derived.Stop.LaidTwo
import Derived.Stop.Joined
import Derived.Test.YtdlnoeegboapkaaGreatDoorRQ
/- The orders of points and of directions, the reference's primitive vectors. printed by a small program (mkord.py). -/
namespace Go.Proofs.YtdlnoeegboapkaaGreatDoor
open Go.RowKit
set_option maxRecDepth 100000
set_option maxHeartbeats 40000000
set_option synthInstance.maxSize 100000
set_option synthInstance.maxHeartbeats 1000000

/-- The order of points. -/
def cmpR (x1 y1 x2 y2 : Rat) : Int := if isgn (x1 - x2).num = 0 then isgn (y1 - y2).num else isgn (x1 - x2).num
theorem ptCmpC {w : World} {n1x d1x n1y d1y n2x d2x n2y d2y : Int} {p1x p1y p2x p2y : Option Addr} {x1 y1 x2 y2 : Rat} {k1x k1y k2x k2y : Nat} [h1x : CF w (.agg #[.int .i64 n1x, .int .i64 d1x, .pointer p1x]) x1 k1x] [h1y : CF w (.agg #[.int .i64 n1y, .int .i64 d1y, .pointer p1y]) y1 k1y] [h2x : CF w (.agg #[.int .i64 n2x, .int .i64 d2x, .pointer p2x]) x2 k2x] [h2y : CF w (.agg #[.int .i64 n2y, .int .i64 d2y, .pointer p2y]) y2 k2y] (b : k1x ≤ 100000 ∧ k1y ≤ 100000 ∧ k2x ≤ 100000 ∧ k2y ≤ 100000) :
    Calls Tryz.prog 148 #[.agg #[.int .i64 n1x, .int .i64 d1x, .pointer p1x, .int .i64 n1y, .int .i64 d1y, .pointer p1y], .agg #[.int .i64 n2x, .int .i64 d2x, .pointer p2x, .int .i64 n2y, .int .i64 d2y, .pointer p2y]] w (fun e w' => e = .returned (.int .i64 (cmpR x1 y1 x2 y2)) ∧ Below w.heap.size w w') := by
  obtain ⟨q1, q2⟩ := isgn_bd (x1 - x2).num
  by_cases hc : isgn (x1 - x2).num = 0
  · have HE : Hid (cmpR x1 y1 x2 y2 = isgn (y1 - y2).num) := if_pos hc
    have HC := Lib.hid hc
    clear hc q1 q2
    go_enter Tryz.func148, Tryz.ntmps148
    go_wp2_with (first
    | (go_at_call 204; (with_reducible refine Calls.cE (rCmpV (by omega) HC) ?_); intros)
    | (go_at_call 204; (with_reducible refine Calls.cE (rCmpC (by omega)) ?_); intros))
    go_ret
    exact E.fin (by rw [HE.out]; rfl)
  · have HE : Hid (cmpR x1 y1 x2 y2 = isgn (x1 - x2).num) := if_neg hc
    obtain ⟨c, hC⟩ : ∃ c, isgn (x1 - x2).num = c := ⟨_, rfl⟩
    rw [hC] at HE hc q1 q2
    have HC := Lib.hid hC
    have q : (c == 0) = false := by rw [beq_eq_false_iff_ne]; exact hc
    clear hC hc
    go_enter Tryz.func148, Tryz.ntmps148
    go_wp2_with (first
    | (go_at_call 204; (with_reducible refine Calls.cE (rCmpV (by omega) HC) ?_); intros)
    | (go_at_call 204; (with_reducible refine Calls.cE (rCmpC (by omega)) ?_); intros))
    go_ret
    exact E.fin (by rw [HE.out]; rfl)

theorem refCompareC {w : World} {g1x g1y g2x g2y : Bool} {a1x aa1x a1y aa1y a2x aa2x a2y aa2y : Option Addr} {l1x c1x ll1x cc1x l1y c1y ll1y cc1y l2x c2x ll2x cc2x l2y c2y ll2y cc2y k1x k1y k2x k2y : Nat} {x1 y1 x2 y2 : Rat} [h1x : CQ w (.agg #[.bool g1x, .slice a1x l1x c1x, .slice aa1x ll1x cc1x]) x1 k1x] [h1y : CQ w (.agg #[.bool g1y, .slice a1y l1y c1y, .slice aa1y ll1y cc1y]) y1 k1y] [h2x : CQ w (.agg #[.bool g2x, .slice a2x l2x c2x, .slice aa2x ll2x cc2x]) x2 k2x] [h2y : CQ w (.agg #[.bool g2y, .slice a2y l2y c2y, .slice aa2y ll2y cc2y]) y2 k2y] (b : k1x ≤ 9000 ∧ k1y ≤ 9000 ∧ k2x ≤ 9000 ∧ k2y ≤ 9000) :
    Calls Tryz.prog 88 #[.agg #[.bool g1x, .slice a1x l1x c1x, .slice aa1x ll1x cc1x, .bool g1y, .slice a1y l1y c1y, .slice aa1y ll1y cc1y], .agg #[.bool g2x, .slice a2x l2x c2x, .slice aa2x ll2x cc2x, .bool g2y, .slice a2y l2y c2y, .slice aa2y ll2y cc2y]] w (fun e w' => e = .returned (.int .i64 (cmpR x1 y1 x2 y2)) ∧ Below w.heap.size w w') := by
  obtain ⟨q1, q2⟩ := isgn_bd (x1 - x2).num
  by_cases hc : isgn (x1 - x2).num = 0
  · have HE : Hid (cmpR x1 y1 x2 y2 = isgn (y1 - y2).num) := if_pos hc
    have HC := Lib.hid hc
    clear hc q1 q2
    go_enter Tryz.func88, Tryz.ntmps88
    go_wp2_with (first
    | (go_at_call 78; (with_reducible refine Calls.cE (numCV (by omega) HC) ?_); intros)
    | (go_at_call 78; (with_reducible refine Calls.cE (numCC (by omega)) ?_); intros))
    go_ret
    exact E.fin (by rw [HE.out]; rfl)
  · have HE : Hid (cmpR x1 y1 x2 y2 = isgn (x1 - x2).num) := if_neg hc
    obtain ⟨c, hC⟩ : ∃ c, isgn (x1 - x2).num = c := ⟨_, rfl⟩
    rw [hC] at HE hc q1 q2
    have HC := Lib.hid hC
    have q : (c == 0) = false := by rw [beq_eq_false_iff_ne]; exact hc
    clear hC hc
    go_enter Tryz.func88, Tryz.ntmps88
    go_wp2_with (first
    | (go_at_call 78; (with_reducible refine Calls.cE (numCV (by omega) HC) ?_); intros)
    | (go_at_call 78; (with_reducible refine Calls.cE (numCC (by omega)) ?_); intros))
    go_ret
    exact E.fin (by rw [HE.out]; rfl)

/-- Whether the third point lies on the segment between the others. -/
def btwR (x1 y1 x2 y2 x3 y3 : Rat) : Bool := decide (orientR x1 y1 x2 y2 x3 y3 = 0) && decide (isgn ((x1 - x3) * (x2 - x3) + (y1 - y3) * (y2 - y3)).num ≤ 0)
theorem orientV {w : World} {v : Int} {n1x d1x n1y d1y n2x d2x n2y d2y n3x d3x n3y d3y : Int} {p1x p1y p2x p2y p3x p3y : Option Addr} {x1 y1 x2 y2 x3 y3 : Rat} {k1x k1y k2x k2y k3x k3y : Nat} [h1x : CF w (.agg #[.int .i64 n1x, .int .i64 d1x, .pointer p1x]) x1 k1x] [h1y : CF w (.agg #[.int .i64 n1y, .int .i64 d1y, .pointer p1y]) y1 k1y] [h2x : CF w (.agg #[.int .i64 n2x, .int .i64 d2x, .pointer p2x]) x2 k2x] [h2y : CF w (.agg #[.int .i64 n2y, .int .i64 d2y, .pointer p2y]) y2 k2y] [h3x : CF w (.agg #[.int .i64 n3x, .int .i64 d3x, .pointer p3x]) x3 k3x] [h3y : CF w (.agg #[.int .i64 n3y, .int .i64 d3y, .pointer p3y]) y3 k3y] (b : k1x ≤ 5000 ∧ k1y ≤ 5000 ∧ k2x ≤ 5000 ∧ k2y ≤ 5000 ∧ k3x ≤ 5000 ∧ k3y ≤ 5000) (hv : Hid (orientR x1 y1 x2 y2 x3 y3 = v)) :
    Calls Tryz.prog 110 #[.agg #[.int .i64 n1x, .int .i64 d1x, .pointer p1x, .int .i64 n1y, .int .i64 d1y, .pointer p1y], .agg #[.int .i64 n2x, .int .i64 d2x, .pointer p2x, .int .i64 n2y, .int .i64 d2y, .pointer p2y], .agg #[.int .i64 n3x, .int .i64 d3x, .pointer p3x, .int .i64 n3y, .int .i64 d3y, .pointer p3y]] w (fun e w' => e = .returned (.int .i64 v) ∧ Below w.heap.size w w') := by
  rw [← hv.out]; exact orientC b
theorem refOrientV {w : World} {v : Int} {g1x g1y g2x g2y g3x g3y : Bool} {a1x aa1x a1y aa1y a2x aa2x a2y aa2y a3x aa3x a3y aa3y : Option Addr} {l1x c1x ll1x cc1x l1y c1y ll1y cc1y l2x c2x ll2x cc2x l2y c2y ll2y cc2y l3x c3x ll3x cc3x l3y c3y ll3y cc3y k1x k1y k2x k2y k3x k3y : Nat} {x1 y1 x2 y2 x3 y3 : Rat} [h1x : CQ w (.agg #[.bool g1x, .slice a1x l1x c1x, .slice aa1x ll1x cc1x]) x1 k1x] [h1y : CQ w (.agg #[.bool g1y, .slice a1y l1y c1y, .slice aa1y ll1y cc1y]) y1 k1y] [h2x : CQ w (.agg #[.bool g2x, .slice a2x l2x c2x, .slice aa2x ll2x cc2x]) x2 k2x] [h2y : CQ w (.agg #[.bool g2y, .slice a2y l2y c2y, .slice aa2y ll2y cc2y]) y2 k2y] [h3x : CQ w (.agg #[.bool g3x, .slice a3x l3x c3x, .slice aa3x ll3x cc3x]) x3 k3x] [h3y : CQ w (.agg #[.bool g3y, .slice a3y l3y c3y, .slice aa3y ll3y cc3y]) y3 k3y] (b : k1x ≤ 1000 ∧ k1y ≤ 1000 ∧ k2x ≤ 1000 ∧ k2y ≤ 1000 ∧ k3x ≤ 1000 ∧ k3y ≤ 1000) (hv : Hid (orientR x1 y1 x2 y2 x3 y3 = v)) :
    Calls Tryz.prog 113 #[.agg #[.bool g1x, .slice a1x l1x c1x, .slice aa1x ll1x cc1x, .bool g1y, .slice a1y l1y c1y, .slice aa1y ll1y cc1y], .agg #[.bool g2x, .slice a2x l2x c2x, .slice aa2x ll2x cc2x, .bool g2y, .slice a2y l2y c2y, .slice aa2y ll2y cc2y], .agg #[.bool g3x, .slice a3x l3x c3x, .slice aa3x ll3x cc3x, .bool g3y, .slice a3y l3y c3y, .slice aa3y ll3y cc3y]] w (fun e w' => e = .returned (.int .i64 v) ∧ Below w.heap.size w w') := by
  rw [← hv.out]; exact refOrientC (by omega)
end Go.Proofs.YtdlnoeegboapkaaGreatDoor

/- The order of rings and the least rotation: plain facts. -/
namespace Go.Proofs.YtdlnoeegboapkaaGreatDoor
open Go.RowKit

def cmpP (p q : Rat × Rat) : Int := cmpR p.1 p.2 q.1 q.2
/-- Lists of points, by their first difference; a beginning comes first. -/
def cmpLs : List (Rat × Rat) → List (Rat × Rat) → Int
  | [], [] => 0
  | [], _ :: _ => -1
  | _ :: _, [] => 1
  | p :: L, q :: M => if cmpP p q = 0 then cmpLs L M else cmpP p q
theorem drop_pg {L : List (Rat × Rat)} {i : Nat} (h : i < L.length) : L.drop i = pg L i :: L.drop (i + 1) := by
  rw [pg_get h, List.drop_eq_getElem_cons h]
theorem cmpLs_step {L M : List (Rat × Rat)} {i : Nat} (h1 : i < L.length) (h2 : i < M.length) (h : cmpP (pg L i) (pg M i) = 0) : cmpLs (L.drop i) (M.drop i) = cmpLs (L.drop (i + 1)) (M.drop (i + 1)) := by
  rw [drop_pg h1, drop_pg h2, cmpLs, if_pos h]
theorem cmpLs_ne {L M : List (Rat × Rat)} {i : Nat} (h1 : i < L.length) (h2 : i < M.length) (h : cmpP (pg L i) (pg M i) ≠ 0) : cmpLs (L.drop i) (M.drop i) = cmpP (pg L i) (pg M i) := by
  rw [drop_pg h1, drop_pg h2, cmpLs, if_neg h]
theorem cmpLs_end {L M : List (Rat × Rat)} {i : Nat} (h : L.length ≤ i ∨ M.length ≤ i) (hi : i ≤ L.length ∧ i ≤ M.length) : cmpLs (L.drop i) (M.drop i) = if L.length < M.length then -1 else if M.length < L.length then 1 else 0 := by
  by_cases h1 : L.length ≤ i
  · rw [List.drop_eq_nil_of_le h1]
    by_cases h2 : M.length ≤ i
    · rw [List.drop_eq_nil_of_le h2, if_neg (by omega), if_neg (by omega)]; rfl
    · rw [drop_pg (by omega), if_pos (by omega)]; rfl
  · have h2 : M.length ≤ i := by omega
    rw [List.drop_eq_nil_of_le h2, drop_pg (by omega), if_neg (by omega), if_pos (by omega)]; rfl
def rot (L : List (Rat × Rat)) (i : Nat) : List (Rat × Rat) := L.drop i ++ L.take i
theorem rot_len (L : List (Rat × Rat)) (i : Nat) : (rot L i).length = L.length := by simp [rot]; omega
theorem rot_pg {L : List (Rat × Rat)} {i : Nat} (h : i < L.length) : rot L i = pg L i :: (L.drop (i + 1) ++ L.take i) := by rw [rot, drop_pg h]; rfl
/-- The best of the first i rotations (and of the ring itself). -/
def bst (L : List (Rat × Rat)) : Nat → List (Rat × Rat)
  | 0 => L
  | i + 1 => if cmpLs (rot L i) (bst L i) < 0 then rot L i else bst L i
theorem bst_len (L : List (Rat × Rat)) (i : Nat) : (bst L i).length = L.length := by
  induction i with
  | zero => rfl
  | succ i ih => rw [bst]; split
                 · exact rot_len _ _
                 · exact ih
def canonL (L : List (Rat × Rat)) : List (Rat × Rat) := bst L L.length
theorem bst_skip {L : List (Rat × Rat)} {i : Nat} (hi : i < L.length) (h : 0 < cmpP (pg L i) (pg (bst L i) 0)) : bst L (i + 1) = bst L i := by
  rw [bst, if_neg]
  rw [rot_pg hi]
  have hb : 0 < (bst L i).length := by rw [bst_len]; omega
  have e : bst L i = pg (bst L i) 0 :: (bst L i).drop 1 := by
    have := drop_pg hb
    simpa using this
  rw [e, cmpLs, if_neg (by omega)]
  exact Int.not_lt.2 (Int.le_of_lt h)
theorem bst_better {L : List (Rat × Rat)} {i : Nat} (h : cmpLs (rot L i) (bst L i) < 0) : bst L (i + 1) = rot L i := by rw [bst, if_pos h]
theorem bst_same {L : List (Rat × Rat)} {i : Nat} (h : ¬ cmpLs (rot L i) (bst L i) < 0) : bst L (i + 1) = bst L i := by rw [bst, if_neg h]
end Go.Proofs.YtdlnoeegboapkaaGreatDoor

/- The area of a ring, its rotations and its reverse, convex rings: plain facts. -/
namespace Go.Proofs.YtdlnoeegboapkaaGreatDoor
open Go.RowKit

def sumN (f : Nat → Rat) : Nat → Rat
  | 0 => 0
  | n + 1 => sumN f n + f n
theorem sumN_congr {f g : Nat → Rat} {n : Nat} (h : ∀ i, i < n → f i = g i) : sumN f n = sumN g n := by
  induction n with
  | zero => rfl
  | succ n ih => rw [sumN, sumN, ih (fun i hi => h i (by omega)), h n (by omega)]
theorem sumN_head (f : Nat → Rat) (n : Nat) : sumN f (n + 1) = f 0 + sumN (fun i => f (i + 1)) n := by
  induction n with
  | zero => simp only [sumN]; grind
  | succ n ih => rw [sumN, ih, sumN]; grind
theorem sumN_rev (f : Nat → Rat) (n : Nat) : sumN (fun i => f (n - 1 - i)) n = sumN f n := by
  induction n generalizing f with
  | zero => rfl
  | succ n ih =>
    rw [sumN_head f n, ← ih (fun i => f (i + 1)), sumN]
    have e : sumN (fun i => f (n + 1 - 1 - i)) n = sumN (fun i => f (n - 1 - i + 1)) n := sumN_congr fun i hi => by
      rw [show n + 1 - 1 - i = n - 1 - i + 1 by omega]
    rw [e, show n + 1 - 1 - n = 0 by omega]; grind
theorem sumN_neg (f : Nat → Rat) (n : Nat) : sumN (fun i => -f i) n = -sumN f n := by
  induction n with
  | zero => simp [sumN]
  | succ n ih => rw [sumN, sumN, ih]; grind
/-- A function of period n: the sum over a period does not depend on where it begins. -/
theorem sumN_per {f : Nat → Rat} {n : Nat} (h : ∀ i, f (i + n) = f i) (k : Nat) : sumN (fun i => f (i + k)) n = sumN f n := by
  induction k with
  | zero => rfl
  | succ k ih =>
    rw [← ih]
    have h1 := sumN_head (fun i => f (i + k)) n
    have h2 : sumN (fun i => f (i + k)) (n + 1) = sumN (fun i => f (i + k)) n + f (n + k) := rfl
    have h3 : f (n + k) = f (0 + k) := by rw [show n + k = 0 + k + n by omega, h]
    have h4 : sumN (fun i => f (i + 1 + k)) n = sumN (fun i => f (i + (k + 1))) n := sumN_congr fun i hi => by rw [show i + 1 + k = i + (k + 1) by omega]
    grind
def crs (p q : Rat × Rat) : Rat := p.1 * q.2 - p.2 * q.1
/-- The vertex i, counted around. -/
def pc (L : List (Rat × Rat)) (i : Nat) : Rat × Rat := pg L (i % L.length)
theorem pc_lt {L : List (Rat × Rat)} {i : Nat} (h : i < L.length) : pc L i = pg L i := by rw [pc, Nat.mod_eq_of_lt h]
theorem pc_per (L : List (Rat × Rat)) (i : Nat) : pc L (i + L.length) = pc L i := by rw [pc, Nat.add_mod_right, pc]
/-- Twice the area of the first q edges. -/
def sumC (L : List (Rat × Rat)) (q : Nat) : Rat := sumN (fun i => crs (pc L i) (pc L (i + 1))) q
theorem sumC_succ {L : List (Rat × Rat)} {q : Nat} (h : q < L.length) : sumC L (q + 1) = sumC L q + crs (pg L q) (pg L ((q + 1) % L.length)) := by
  rw [sumC, sumN, ← sumC, pc_lt h, pc]
def areaL (L : List (Rat × Rat)) : Rat := sumC L L.length / 2
/-! ### Rotations -/
theorem rot_pc {L : List (Rat × Rat)} {k : Nat} (hk : k < L.length) (i : Nat) : pc (rot L k) i = pc L (i + k) := by
  have h0 : 0 < L.length := by omega
  rw [pc, rot_len]
  have hm : i % L.length < L.length := Nat.mod_lt _ h0
  rw [pg_get (by rw [rot_len]; exact hm)]
  unfold rot
  by_cases hc : i % L.length < L.length - k
  · rw [List.getElem_append_left (by rw [List.length_drop]; exact hc), List.getElem_drop]
    have e : (i + k) % L.length = k + i % L.length := by
      rw [Nat.add_mod, Nat.mod_eq_of_lt hk, Nat.add_comm, Nat.mod_eq_of_lt (by omega)]
    rw [pc, e, pg_get]
  · rw [List.getElem_append_right (by rw [List.length_drop]; omega)]
    rw [List.getElem_take]
    have e : (i + k) % L.length = i % L.length - (L.drop k).length := by
      rw [List.length_drop, Nat.add_mod, Nat.mod_eq_of_lt hk]
      rw [show i % L.length + k = i % L.length - (L.length - k) + L.length by omega, Nat.add_mod_right, Nat.mod_eq_of_lt (by omega)]
    rw [pc, e, pg_get]
theorem area_rot {L : List (Rat × Rat)} {k : Nat} (hk : k < L.length) : areaL (rot L k) = areaL L := by
  rw [areaL, areaL, sumC, sumC, rot_len]
  congr 1
  have := sumN_per (f := fun i => crs (pc L i) (pc L (i + 1))) (n := L.length) (fun i => by
    show crs (pc L (i + L.length)) (pc L (i + L.length + 1)) = _
    rw [pc_per, show i + L.length + 1 = i + 1 + L.length by omega, pc_per]) k
  rw [← this]
  exact sumN_congr fun i _ => by
    rw [rot_pc hk, rot_pc hk, show i + 1 + k = i + k + 1 by omega]
theorem bst_rot (L : List (Rat × Rat)) : ∀ i, i ≤ L.length → bst L i = L ∨ ∃ k, k < L.length ∧ bst L i = rot L k := by
  intro i
  induction i with
  | zero => exact fun _ => .inl rfl
  | succ i ih =>
    intro hi
    rw [bst]
    split
    · exact .inr ⟨i, by omega, rfl⟩
    · exact ih (by omega)
theorem area_canon (L : List (Rat × Rat)) : areaL (canonL L) = areaL L := by
  rcases bst_rot L L.length (Nat.le_refl _) with h | ⟨k, hk, h⟩
  · rw [canonL, h]
  · rw [canonL, h, area_rot hk]
/-! ### The reverse -/
def revL : List (Rat × Rat) → List (Rat × Rat)
  | [] => []
  | p :: L => p :: L.reverse
theorem revL_len (L : List (Rat × Rat)) : (revL L).length = L.length := by cases L <;> simp [revL]
theorem revL_revL (L : List (Rat × Rat)) : revL (revL L) = L := by cases L <;> simp [revL]
theorem revL_pc {L : List (Rat × Rat)} {i : Nat} (h : i ≤ L.length) (h0 : 0 < L.length) : pc (revL L) i = pc L (L.length - i) := by
  cases L with
  | nil => simp at h0
  | cons p M =>
    rcases Nat.eq_zero_or_pos i with rfl | hp
    · rw [Nat.sub_zero]
      rw [show (p :: M).length = 0 + (p :: M).length by omega, pc_per, pc, pc]
      simp [revL, pg]
    · rcases Nat.lt_or_ge i (p :: M).length with hlt | hge
      · rw [pc_lt (by rw [revL_len]; exact hlt), pc_lt (by omega), pg_get (by rw [revL_len]; exact hlt), pg_get (by omega)]
        simp only [revL]
        simp only [List.length_cons] at hlt
        obtain ⟨j, rfl⟩ : ∃ j, i = j + 1 := ⟨i - 1, by omega⟩
        rw [List.getElem_cons_succ, List.getElem_reverse]
        have e : (p :: M).length - (j + 1) = (M.length - 1 - j) + 1 := by simp only [List.length_cons]; omega
        simp only [e, List.getElem_cons_succ]
      · have e : i = (p :: M).length := by omega
        rw [e, Nat.sub_self, pc, pc, revL_len, Nat.mod_self, Nat.zero_mod]
        simp [revL, pg]
theorem area_rev (L : List (Rat × Rat)) : areaL (revL L) = -areaL L := by
  rcases Nat.eq_zero_or_pos L.length with h0 | h0
  · have : L = [] := List.eq_nil_of_length_eq_zero h0
    subst this
    simp only [areaL, sumC, sumN, revL, List.length_nil]; decide +kernel
  · have h : sumC (revL L) L.length = -sumC L L.length := by
      rw [sumC, sumC, ← sumN_neg, ← sumN_rev (fun i => -crs (pc L i) (pc L (i + 1)))]
      refine sumN_congr fun i hi => ?_
      show crs (pc (revL L) i) (pc (revL L) (i + 1)) = -crs (pc L (L.length - 1 - i)) (pc L (L.length - 1 - i + 1))
      rw [revL_pc (by omega) h0, revL_pc (by omega) h0, show L.length - (i + 1) = L.length - 1 - i by omega, show L.length - 1 - i + 1 = L.length - i by omega]
      unfold crs; grind
    rw [areaL, areaL, revL_len, h]
    grind
/-! ### Convex rings -/
def det3 (p q r : Rat × Rat) : Rat := (q.1 - p.1) * (r.2 - p.2) - (q.2 - p.2) * (r.1 - p.1)
theorem det3_or (p q r : Rat × Rat) : orientR p.1 p.2 q.1 q.2 r.1 r.2 = isgn (det3 p q r).num := rfl
theorem or_pos {p q r : Rat × Rat} : 0 < orientR p.1 p.2 q.1 q.2 r.1 r.2 ↔ 0 < det3 p q r := by
  rw [det3_or]
  rw [← isg_pos]
  have := isgn_bd (det3 p q r).num
  omega
/-- All other vertices lie on the left side of every edge. -/
def CvxL (L : List (Rat × Rat)) : Prop := ∀ i, i < L.length → ∀ k, k < L.length → k ≠ i → k ≠ (i + 1) % L.length → 0 < det3 (pg L i) (pg L ((i + 1) % L.length)) (pg L k)
theorem cvx_part {L : List (Rat × Rat)} {q : Nat} (hq : q ≤ L.length) : sumC L q = sumN (fun i => det3 (pc L 0) (pc L i) (pc L (i + 1))) q + crs (pc L 0) (pc L q) := by
  induction q with
  | zero => simp [sumC, sumN, crs]; grind
  | succ q ih =>
    rw [sumC, sumN, ← sumC, ih (by omega), sumN]
    unfold crs det3; grind
theorem sumN_nonneg {f : Nat → Rat} {n : Nat} (h : ∀ i, i < n → 0 ≤ f i) : 0 ≤ sumN f n := by
  induction n with
  | zero => simp [sumN]
  | succ n ih => rw [sumN]; have := ih (fun i hi => h i (by omega)); have := h n (by omega); grind
theorem sumN_pos {f : Nat → Rat} {n j : Nat} (h : ∀ i, i < n → 0 ≤ f i) (hj : j < n) (hp : 0 < f j) : 0 < sumN f n := by
  induction n with
  | zero => omega
  | succ n ih =>
    rw [sumN]
    by_cases e : j = n
    · subst e
      have := sumN_nonneg (f := f) (n := j) (fun i hi => h i (by omega))
      grind
    · have := ih (fun i hi => h i (by omega)) (by omega)
      have := h n (by omega)
      grind
theorem cvx_det {L : List (Rat × Rat)} (h : CvxL L) {i : Nat} (hi : i < L.length) (h1 : i ≠ 0) (h2 : i + 1 ≠ L.length) : 0 < det3 (pc L 0) (pc L i) (pc L (i + 1)) := by
  have hm : (i + 1) % L.length = i + 1 := Nat.mod_eq_of_lt (by omega)
  have := h i hi 0 (by omega) (Ne.symm h1) (by rw [hm]; omega)
  rw [hm] at this
  rw [pc_lt (by omega), pc_lt hi, pc_lt (by omega)]
  unfold det3 at this ⊢; grind
theorem cvx_area {L : List (Rat × Rat)} (h : CvxL L) (h3 : 3 ≤ L.length) : 0 < areaL L := by
  have hs := cvx_part (L := L) (Nat.le_refl _)
  have h0 : crs (pc L 0) (pc L L.length) = 0 := by
    rw [show L.length = 0 + L.length by omega, pc_per]
    unfold crs; grind
  have hp : 0 < sumN (fun i => det3 (pc L 0) (pc L i) (pc L (i + 1))) L.length := by
    refine sumN_pos (j := 1) (fun i hi => ?_) (by omega) (cvx_det h (by omega) (by omega) (by omega))
    by_cases e0 : i = 0
    · subst e0
      have : det3 (pc L 0) (pc L 0) (pc L (0 + 1)) = 0 := by unfold det3; grind
      rw [this]; exact Rat.le_refl
    · by_cases e1 : i + 1 = L.length
      · have : det3 (pc L 0) (pc L i) (pc L (i + 1)) = 0 := by
          rw [e1, show L.length = 0 + L.length by omega, pc_per]
          unfold det3; grind
        rw [this]; exact Rat.le_refl
      · exact Rat.le_of_lt (cvx_det h hi e0 e1)
  rw [areaL, hs, h0]
  grind
theorem cvx_turn {L : List (Rat × Rat)} (h : CvxL L) (h3 : 3 ≤ L.length) {i : Nat} (hi : i < L.length) : 0 < det3 (pg L ((i + L.length - 1) % L.length)) (pg L i) (pg L ((i + 1) % L.length)) := by
  by_cases e0 : i = 0
  · subst e0
    have hm : (0 + L.length - 1) % L.length = L.length - 1 := by rw [Nat.zero_add, Nat.mod_eq_of_lt (by omega)]
    have hm1 : (0 + 1) % L.length = 1 := Nat.mod_eq_of_lt (by omega)
    have hm2 : (L.length - 1 + 1) % L.length = 0 := by rw [show L.length - 1 + 1 = L.length by omega, Nat.mod_self]
    have := h (L.length - 1) (by omega) 1 (by omega) (by omega) (by rw [hm2]; omega)
    rw [hm2] at this
    rw [hm, hm1]; exact this
  · have hm : (i + L.length - 1) % L.length = i - 1 := by
      rw [show i + L.length - 1 = i - 1 + L.length by omega, Nat.add_mod_right, Nat.mod_eq_of_lt (by omega)]
    rw [hm]
    have hm2 : (i - 1 + 1) % L.length = i := by rw [show i - 1 + 1 = i by omega, Nat.mod_eq_of_lt hi]
    have := h (i - 1) (by omega) ((i + 1) % L.length) (Nat.mod_lt _ (by omega)) (by
      rcases Nat.lt_or_ge (i + 1) L.length with hl | hg
      · rw [Nat.mod_eq_of_lt hl]; omega
      · have : i + 1 = L.length := by omega
        rw [this, Nat.mod_self]; omega) (by
      rw [hm2]
      rcases Nat.lt_or_ge (i + 1) L.length with hl | hg
      · rw [Nat.mod_eq_of_lt hl]; omega
      · have : i + 1 = L.length := by omega
        rw [this, Nat.mod_self]; omega)
    rw [hm2] at this
    exact this
end Go.Proofs.YtdlnoeegboapkaaGreatDoor

/- The listed variables of the rows of layer 9: the sentinels. -/
namespace Go.Proofs.YtdlnoeegboapkaaGreatDoor
open Go Go.RowKit

theorem Tryz.gI : Tryz.prog.globalNamed "bspregion/api.ErrInvalid" = some 4 := by kernel_rfl
theorem Tryz.gRi : Tryz.prog.globalNamed "bspregion/api.ErrRing" = some 3 := by kernel_rfl
theorem Tryz.gLi : Tryz.prog.globalNamed "bspregion/api.ErrLimit" = some 2 := by kernel_rfl
theorem Tryz.gIt : (Tryz.prog.globals[4]?).map (·.type) = some 36 := by kernel_rfl
theorem Tryz.gRit : (Tryz.prog.globals[3]?).map (·.type) = some 36 := by kernel_rfl
theorem Tryz.gLit : (Tryz.prog.globals[2]?).map (·.type) = some 36 := by kernel_rfl
theorem Tryz.rcellsEs : Tryz.prog.cellsOf 388 = 1 := by kernel_rfl
theorem Tryz.rcellsStr : Tryz.prog.cellsOf 9 = 1 := by kernel_rfl
theorem Tryz.rstar : "*" ++ "errors.errorString" = "*errors.errorString" := by decide
theorem Tryz.rrowEs (u : TypeId) (h : Tryz.prog.typeName? 3 u = some "*errors.errorString") : u = 365 :=
  typeName_ptr_named (nm := "errors.errorString") (by rw [Tryz.rstar]; kernel_rfl) (by kernel_rfl) (by decide) u (by rw [Tryz.rstar]; exact h)
theorem snt_of_var9 {W : World} {n : String} {g : Nat} {a : Addr} (hg : Tryz.prog.globalNamed n = some g) (hv : W.var? Tryz.prog n = some #[.iface 365 (.pointer (some a))]) (hr : ∃ c t, W.heap[a.block]? = some (.cells c t (0, 0))) : Snt W g a W :=
  Snt.mk1 (by simpa using World.var?_cell hg hv 0) hr
/-- The list of the rows of layer 9. -/
def laid9 : List (String × DataW Unit) := [("math/bits.deBruijn32tab", Rows.laid_math_bits_deBruijn32tab), ("math/bits.deBruijn64tab", Rows.laid_math_bits_deBruijn64tab), ("internal/strconv.uint64pow10", Rows.laid_internal_strconv_uint64pow10), ("bspregion/api.ErrInvalid", Rows.laid_bspregion_api_ErrInvalid), ("bspregion/api.ErrRing", Rows.laid_bspregion_api_ErrRing), ("bspregion/api.ErrLimit", Rows.laid_bspregion_api_ErrLimit)]
theorem sents9 {W : World} (hL : laidMetH Tryz.prog laid9 W) : ∃ aI aR aL, Snt W 4 aI W ∧ Snt W 3 aR W ∧ Snt W 2 aL W := by
  rw [MakeChecks.laidMetH_plain _ _ _ (by kernel_rfl)] at hL
  have hT := hL.tail.tail.tail
  obtain ⟨a0, a1, s0, s1, c0, c1, t0, t1, hv0, hv1, _, _, _, _, _, _, hne, hb0, hb1⟩ := laid_sentinels2 hT Tryz.gI Tryz.gIt Tryz.gRi Tryz.gRit Tryz.underlying36 Tryz.rrowEs Tryz.underlying365 Tryz.underlying388 rfl rfl Tryz.underlying9 Tryz.rcellsEs Tryz.rcellsStr
  obtain ⟨b0, b1, s0', s1', c0', c1', t0', t1', hv0', hv1', _, _, _, _, _, _, _, _, hb1'⟩ := laid_sentinels2 hT.tail Tryz.gRi Tryz.gRit Tryz.gLi Tryz.gLit Tryz.underlying36 Tryz.rrowEs Tryz.underlying365 Tryz.underlying388 rfl rfl Tryz.underlying9 Tryz.rcellsEs Tryz.rcellsStr
  exact ⟨a0, a1, b1, snt_of_var9 Tryz.gI hv0 ⟨_, _, hb0⟩, snt_of_var9 Tryz.gRi hv1 ⟨_, _, hb1⟩, snt_of_var9 Tryz.gLi hv1' ⟨_, _, hb1'⟩⟩
end Go.Proofs.YtdlnoeegboapkaaGreatDoor

/- Errors of geo.RingOf; ring.Check; the area. printed by a small program (mkrg5.py). -/
namespace Go.Proofs.YtdlnoeegboapkaaGreatDoor
open Go.RowKit
set_option maxRecDepth 100000
set_option maxHeartbeats 40000000
set_option synthInstance.maxSize 100000
set_option synthInstance.maxHeartbeats 1000000
set_option linter.unusedVariables false
attribute [local go_sem] Oper.semAt_some

/-- An error of a kind is returned, behind another result. -/
def RErr (w : World) (v : Value) (a : Addr) (e : Ending) (w' : World) : Prop :=
  ∃ b s, e = .returned (.tuple #[v, .iface 114 (.pointer (some ⟨b, 0, none⟩))]) ∧ Bx w' b 116 [.iface 365 (.pointer (some a)), .int .i64 0, .int .i64 0, .string s] ∧ Below w.heap.size w w'
theorem Calls.cRErr {P : Program} {f : FuncId} {args : Array Value} {w : World} {v : Value} {a : Addr} {K : Ending → World → Prop} (h : Calls P f args w (RErr w v a))
    (hK : ∀ w' [Kp1 w w'] b s [Bx w' b 116 [.iface 365 (.pointer (some a)), .int .i64 0, .int .i64 0, .string s]], K (.returned (.tuple #[v, .iface 114 (.pointer (some ⟨b, 0, none⟩))])) w') : Calls P f args w K := by
  refine h.mono ?_
  rintro e w' ⟨b, s, rfl, hx, hb⟩
  exact @hK w' ⟨hb⟩ b s hx
theorem RErr.fin {w w' : World} {v : Value} {a : Addr} {b : Nat} {s : ByteArray} [k : Kp w w'] [h : Bx w' b 116 [.iface 365 (.pointer (some a)), .int .i64 0, .int .i64 0, .string s]] : RErr w v a (.returned (.tuple #[v, .iface 114 (.pointer (some ⟨b, 0, none⟩))])) w' := ⟨b, s, rfl, h, k.out⟩
/-- An error of a kind is returned. -/
def OErr (w : World) (a : Addr) (e : Ending) (w' : World) : Prop :=
  ∃ b s, e = .returned (.iface 114 (.pointer (some ⟨b, 0, none⟩))) ∧ Bx w' b 116 [.iface 365 (.pointer (some a)), .int .i64 0, .int .i64 0, .string s] ∧ Below w.heap.size w w'
theorem Calls.cOErr {P : Program} {f : FuncId} {args : Array Value} {w : World} {a : Addr} {K : Ending → World → Prop} (h : Calls P f args w (OErr w a))
    (hK : ∀ w' [Kp1 w w'] b s [Bx w' b 116 [.iface 365 (.pointer (some a)), .int .i64 0, .int .i64 0, .string s]], K (.returned (.iface 114 (.pointer (some ⟨b, 0, none⟩)))) w') : Calls P f args w K := by
  refine h.mono ?_
  rintro e w' ⟨b, s, rfl, hx, hb⟩
  exact @hK w' ⟨hb⟩ b s hx
theorem OErr.fin {w w' : World} {a : Addr} {b : Nat} {s : ByteArray} [k : Kp w w'] [h : Bx w' b 116 [.iface 365 (.pointer (some a)), .int .i64 0, .int .i64 0, .string s]] : OErr w a (.returned (.iface 114 (.pointer (some ⟨b, 0, none⟩)))) w' := ⟨b, s, rfl, h, k.out⟩
theorem ringOfLimit {w w1 : World} {a : Option Addr} {n c : Nat} {aL : Addr} [h0 : Snt w 2 aL w1] (hn : 4096 < n) :
    Calls Tryz.prog 77 #[.slice a n c] w (RErr w (.slice none 0 0) aL) := by
  have i0 := h0.here
  clear h0
  have hn' : 4096 < (n : Int) := by omega
  go_enter Tryz.func77, Tryz.ntmps77
  go_wp2_with fail
  refine nmwp (fun W4 => Kp w W4 ∧ Bx W4 w.heap.size 131 [.slice none 0 0] ∧ Bx W4 (w.heap.size + 1) 36 [.nilIface] ∧ Snt W4 2 aL w) ⟨inferInstance, inferInstance, inferInstance, inferInstance⟩ ?_
  intro W4 ⟨k1, k2, k3, k4⟩
  refine rgn [w.heap.size, w.heap.size + 1] [] fun hHeld => ?_
  refine tk 0 hHeld ?_
  refine tk 1 hHeld ?_
  refine wpAnyT_ready (rs := [2, 4]) (by kernel_rfl) (by simp) ?_
  refine AllT.cons (by simp; rfl) (fun K hK => ?_) (AllT.cons (by simp; rfl) (fun K hK => ?_) AllT.nil)
  go_simp
  refine hd hK ?_
  clear hHeld hK K
  intro hHeld
  refine tk 3 hHeld ?_
  refine st 4 fun K hK => ?_
  go_simp
  refine hd hK ?_
  clear hHeld hK K
  intro hHeld
  refine st 5 fun K hK => ?_
  go_simp
  refine hd hK ?_
  clear hHeld hK K
  intro hHeld
  refine dn ?_
  clear hHeld
  go_wp2
  refine ret_se rfl Tryz.underlying131 rfl Tryz.underlying36 rfl rfl rfl rfl ?_
  exact RErr.fin
  go_simp
  refine hd hK ?_
  clear hHeld hK K
  intro hHeld
  refine st 2 fun K hK => ?_
  go_simp
  refine hd hK ?_
  clear hHeld hK K
  intro hHeld
  refine tk 3 hHeld ?_
  refine st 5 fun K hK => ?_
  go_simp
  refine hd hK ?_
  clear hHeld hK K
  intro hHeld
  refine dn ?_
  clear hHeld
  go_wp2
  refine ret_se rfl Tryz.underlying131 rfl Tryz.underlying36 rfl rfl rfl rfl ?_
  exact RErr.fin
theorem rHalfC {w : World} {n1 d1 : Int} {p1 : Option Addr} {x : Rat} {k1 : Nat} [h1 : CF w (.agg #[.int .i64 n1, .int .i64 d1, .pointer p1]) x k1] (b : k1 ≤ 250000) :
    Calls Tryz.prog 154 #[.agg #[.int .i64 n1, .int .i64 d1, .pointer p1]] w (CFRet w (x / 2) (k1 + 4)) := by
  have ih : ∀ W, CF W (.agg #[.int .i64 1, .int .i64 1, .pointer none]) (mkRat 1 2) 2 := fun W => CF.small (by decide +kernel) (by decide +kernel) (by omega) (by omega) (by omega) (by omega)
  have ix := ih w
  go_enter Tryz.func154, Tryz.ntmps154
  go_wp2_with (first
    | (go_at_call 213; (with_reducible refine Calls.cF (rMulC (by omega)) ?_); intros))
  refine ret_bx rfl Tryz.underlying147 rfl (by kernel_rfl) rfl rfl rfl ?_
  exact CFRet.fin (by rw [show mkRat 1 2 = (2 : Rat)⁻¹ by decide +kernel, Rat.div_def]) (by omega)
theorem geoAreaC {w w0 : World} {a : Option Addr} {n c : Nat} {V : List FV} {L : List (Rat × Rat)} {k : Nat} [hs : Sl w (.slice a n c) V.length (rowF V) w0] [hp : PsF w V L k] (b : k ≤ 5000) (hV : V.length ≤ 10) :
    Calls Tryz.prog 91 #[.slice a n c] w (CFRet w (areaL L) (40 * k + 120)) := by
  obtain rfl := hs.len
  have hlen := Lib.hid hp.len
  go_enter Tryz.func91, Tryz.ntmps91
  go_wp2_with fail
  go_loopw [8] (fun i wr => ∃ (q kq : Nat) (ns ds : Int) (ps : Option Addr), i = .int .i64 (q : Int) ∧ q ≤ V.length ∧ Bx wr w.heap.size 147 [.int .i64 0, .int .i64 0, .pointer none] ∧ Bx wr (w.heap.size + 1) 147 [.int .i64 ns, .int .i64 ds, .pointer ps] ∧ CF wr (.agg #[.int .i64 ns, .int .i64 ds, .pointer ps]) (sumC L q) kq ∧ Hid (kq ≤ 2 + q * (4 * k + 10)) ∧ Kp w wr) (fun i _ => V.length - (intOf i).toNat)
  case atStart => exact ⟨0, 2, 0, 0, none, rfl, by omega, inferInstance, inferInstance, CF.zero (Nat.le_refl _), Lib.hid (by omega), inferInstance⟩
  case round =>
    obtain ⟨q, kq, ns, ds, ps, rfl, hq, i1, i2, i3, hkq, i4⟩ := hrel
    have kw := Kp1.mk i4.out
    by_cases hlt : q < V.length
    · obtain ⟨g, rfl, hA⟩ := hs.form (by omega)
      have hlt' : (q : Int) < V.length := by omega
      have lq : LtN q V.length := ⟨hlt⟩
      have ew : IntKind.i64.wrap ((q : Int) + 1) = (q : Int) + 1 := wr_in (by omega) (by omega)
      obtain ⟨m, hm0⟩ : ∃ m, (q + 1) % V.length = m := ⟨_, rfl⟩
      have hm : m < V.length := by rw [← hm0]; exact Nat.mod_lt _ (by omega)
      have lm : LtN m V.length := ⟨hm⟩
      have hm' : (m : Int) < V.length := by omega
      have er : ((q : Int) + 1).tmod (V.length : Int) = (m : Int) := by
        rw [← hm0, show (q : Int) + 1 = ((q + 1 : Nat) : Int) by omega]; exact (Int.ofNat_tmod _ _).symm
      have HM := Lib.hid hm0
      clear hm0
      have hz : ¬ ((V.length : Int) = 0) := by omega
      have hz2 : ¬ (V.length = 0) := by omega
      have hkq2 : kq ≤ 2 + q * (4 * k + 10) := hkq.out
      have hkq3 : q * (4 * k + 10) ≤ 10 * (4 * k + 10) := Nat.mul_le_mul_right _ (by omega)
      have HK : kq ≤ 2 + 10 * (4 * k + 10) := by omega
      clear hkq2 hkq3
      go_wp2_with fail
      refine rgn [] [12] fun hHeld => ?_
      refine tk 0 hHeld ?_
      refine tk 1 hHeld ?_
      refine tk 2 hHeld ?_
      refine tk 3 hHeld ?_
      refine tk 4 hHeld ?_
      refine tk 5 hHeld ?_
      refine tk 6 hHeld ?_
      refine tk 7 hHeld ?_
      refine tk 8 hHeld ?_
      refine tk 9 hHeld ?_
      refine st 10 fun K hK => ?_
      go_simp
      (with_reducible refine Calls.cF (ptCrossC (by omega)) ?_); intros
      refine hd hK ?_
      clear hHeld hK K
      intro hHeld
      refine st 11 fun K hK => ?_
      go_simp
      (with_reducible refine Calls.cF (rAddC (by omega)) ?_); intros
      refine hd hK ?_
      clear hHeld hK K
      intro hHeld
      refine st 12 fun K hK => ?_
      go_simp
      refine hdT hK ?_
      clear hK K
      refine dn ?_
      clear hHeld
      go_wp2
      go_roundw
      case rel => exact ⟨q + 1, kq + (k + k + k + k + 7) + 3, _, _, _, by go_num, by omega, inferInstance, inferInstance, CF.cast inferInstance (by rw [sumC_succ (by have := hlen.out; omega), ← hlen.out, HM.out]; rfl) (Nat.le_refl _), Lib.hid (by have h1 := hkq.out; have h2 := Nat.succ_mul q (4 * k + 10); rw [Nat.succ_eq_add_one] at h2; rw [h2]; generalize q * (4 * k + 10) = X at *; omega), inferInstance⟩
      case measure => simp [intOf]; omega
    · obtain rfl : q = V.length := by omega
      have hkq2 : kq ≤ 2 + V.length * (4 * k + 10) := hkq.out
      have hkq3 : V.length * (4 * k + 10) ≤ 10 * (4 * k + 10) := Nat.mul_le_mul_right _ hV
      go_wp2_with (first
        | (go_at_call 154; (with_reducible refine Calls.cF (rHalfC (by omega)) ?_); intros))
      refine ret_bx rfl Tryz.underlying147 rfl (by kernel_rfl) rfl rfl rfl ?_
      exact CFRet.fin (by rw [areaL, ← hlen.out]) (by omega)
end Go.Proofs.YtdlnoeegboapkaaGreatDoor

/- Points in ascending order, each once; the rings off the tape: plain facts. -/
namespace Go.Proofs.YtdlnoeegboapkaaGreatDoor
open Go.RowKit

theorem cmpP_lt {p q : Rat × Rat} : cmpP p q < 0 ↔ p.1 < q.1 ∨ (p.1 = q.1 ∧ p.2 < q.2) := by
  unfold cmpP cmpR
  have b1 := isgn_bd (p.1 - q.1).num
  have b2 := isgn_bd (p.2 - q.2).num
  have n1 := @isg_neg (p.1 - q.1)
  have n2 := @isg_neg (p.2 - q.2)
  have z1 := @isg_zero (p.1 - q.1)
  split
  · rename_i h
    have hz := z1.1 h
    constructor
    · intro hl
      have : isgn (p.2 - q.2).num = -1 := by omega
      have := n2.1 this
      right; constructor <;> grind
    · rintro (hl | ⟨_, hl⟩)
      · grind
      · have := n2.2 (by grind); omega
  · rename_i h
    constructor
    · intro hl
      have : isgn (p.1 - q.1).num = -1 := by omega
      have := n1.1 this
      left; grind
    · rintro (hl | ⟨hl, _⟩)
      · have := n1.2 (by grind); omega
      · exact absurd (z1.2 (by grind)) h
theorem cmpP_zero {p q : Rat × Rat} : cmpP p q = 0 ↔ p = q := by
  unfold cmpP cmpR
  have z1 := @isg_zero (p.1 - q.1)
  have z2 := @isg_zero (p.2 - q.2)
  split
  · rename_i h
    have hz := z1.1 h
    rw [z2, Prod.ext_iff]
    constructor
    · intro h2; constructor <;> grind
    · rintro ⟨_, h2⟩; grind
  · rename_i h
    constructor
    · intro h2; exact absurd h2 h
    · rintro rfl; exact absurd (z1.2 (by grind)) h
theorem cmpP_bd (p q : Rat × Rat) : -1 ≤ cmpP p q ∧ cmpP p q ≤ 1 := by
  unfold cmpP cmpR
  split
  · exact isgn_bd _
  · exact isgn_bd _
theorem cmpP_gt {p q : Rat × Rat} : 0 < cmpP p q ↔ cmpP q p < 0 := by
  have h0 := @cmpP_zero p q
  have h1 := @cmpP_lt p q
  have h2 := @cmpP_lt q p
  constructor
  · intro h
    rw [h2]
    have n1 : ¬ (p.1 < q.1 ∨ (p.1 = q.1 ∧ p.2 < q.2)) := fun hh => by have := h1.2 hh; omega
    have n0 : p ≠ q := fun e => by have := h0.2 e; omega
    rw [Ne, Prod.ext_iff] at n0
    grind
  · intro h
    rw [h2] at h
    have n1 : ¬ cmpP p q < 0 := fun hh => by have := h1.1 hh; grind
    have n0 : cmpP p q ≠ 0 := fun hh => by
      have := h0.1 hh
      subst this
      grind
    omega
theorem cmpP_trans {p q r : Rat × Rat} (h1 : cmpP p q < 0) (h2 : cmpP q r < 0) : cmpP p r < 0 := by
  rw [cmpP_lt] at h1 h2 ⊢; grind
def Asc (M : List (Rat × Rat)) : Prop := List.Pairwise (fun p q => cmpP p q < 0) M
def insP (M : List (Rat × Rat)) (i : Nat) (p : Rat × Rat) : List (Rat × Rat) := M.take i ++ p :: M.drop i
theorem insP_len {M : List (Rat × Rat)} {i : Nat} {p : Rat × Rat} (hi : i ≤ M.length) : (insP M i p).length = M.length + 1 := by simp [insP]; omega
theorem insP_mem {M : List (Rat × Rat)} {i : Nat} {p x : Rat × Rat} : x ∈ insP M i p ↔ x ∈ M ∨ x = p := by
  rw [insP, List.mem_append, List.mem_cons]
  constructor
  · rintro (h | h | h)
    · exact .inl (List.mem_of_mem_take h)
    · exact .inr h
    · exact .inl (List.mem_of_mem_drop h)
  · rintro (h | h)
    · rw [← List.take_append_drop i M, List.mem_append] at h
      rcases h with h | h
      · exact .inl h
      · exact .inr (.inr h)
    · exact .inr (.inl h)
/-- What the search for the place of p tells. -/
structure Place (M : List (Rat × Rat)) (p : Rat × Rat) (i : Nat) : Prop where
  le : i ≤ M.length
  below : ∀ j, j < i → cmpP (pg M j) p < 0
theorem asc_lt {M : List (Rat × Rat)} (h : Asc M) {i j : Nat} (hij : i < j) (hj : j < M.length) : cmpP (pg M i) (pg M j) < 0 := by
  rw [pg_get (by omega), pg_get hj]
  exact List.pairwise_iff_getElem.1 h i j (by omega) hj hij
theorem mem_pg {M : List (Rat × Rat)} {x : Rat × Rat} : x ∈ M ↔ ∃ j, j < M.length ∧ pg M j = x := by
  have := mem_take_pg (L := M) (k := M.length) (Nat.le_refl _) (p := x)
  rwa [List.take_length] at this
theorem place_new {M : List (Rat × Rat)} {p : Rat × Rat} {i : Nat} (h : Asc M) (hp : Place M p i) (he : i = M.length ∨ 0 < cmpP (pg M i) p) : p ∉ M ∧ Asc (insP M i p) := by
  have hab : ∀ j, i ≤ j → j < M.length → cmpP p (pg M j) < 0 := by
    intro j h1 h2
    rcases he with he | he
    · omega
    · rw [cmpP_gt] at he
      rcases Nat.eq_or_lt_of_le h1 with rfl | h3
      · exact he
      · exact cmpP_trans he (asc_lt h h3 h2)
  constructor
  · intro hm
    obtain ⟨j, hj, rfl⟩ := mem_pg.1 hm
    have hz : cmpP (pg M j) (pg M j) = 0 := cmpP_zero.2 rfl
    rcases Nat.lt_or_ge j i with hlt | hge
    · have := hp.below j hlt; omega
    · have := hab j hge hj; omega
  · unfold Asc insP
    rw [List.pairwise_append, List.pairwise_cons]
    refine ⟨h.sublist (List.take_sublist _ _), ⟨?_, h.sublist (List.drop_sublist _ _)⟩, ?_⟩
    · intro x hx
      obtain ⟨j, hj, rfl⟩ := List.mem_iff_getElem.1 hx
      rw [List.getElem_drop]
      rw [List.length_drop] at hj
      have := hab (i + j) (by omega) (by omega)
      rwa [pg_get (by omega)] at this
    · intro x hx y hy
      obtain ⟨j, hj, rfl⟩ := (mem_take_pg hp.le).1 hx
      rcases List.mem_cons.1 hy with rfl | hy
      · exact hp.below j hj
      · obtain ⟨l, hl, rfl⟩ := List.mem_iff_getElem.1 hy
        rw [List.length_drop] at hl
        have := asc_lt h (i := j) (j := i + l) (by omega) (by omega)
        rw [pg_get (L := M) (i := i + l) (by omega)] at this
        rw [List.getElem_drop]; exact this
theorem place_old {M : List (Rat × Rat)} {p : Rat × Rat} {i : Nat} (hi : i < M.length) (h1 : ¬ cmpP (pg M i) p < 0) (h2 : ¬ 0 < cmpP (pg M i) p) : p ∈ M :=
  mem_pg.2 ⟨i, hi, cmpP_zero.1 (by omega)⟩
/-- The list M holds the first q points of L, in ascending order, each once. -/
structure SortOf (L : List (Rat × Rat)) (q : Nat) (M : List (Rat × Rat)) : Prop where
  asc : Asc M
  mem : ∀ x, x ∈ M ↔ x ∈ L.take q
  len : M.length = dsc L q
theorem SortOf.nil (L : List (Rat × Rat)) : SortOf L 0 [] := ⟨List.Pairwise.nil, fun x => by simp, rfl⟩
theorem take_succ_mem {L : List (Rat × Rat)} {q : Nat} (hq : q < L.length) {x : Rat × Rat} : x ∈ L.take (q + 1) ↔ x ∈ L.take q ∨ x = pg L q := by
  rw [List.take_succ_eq_append_getElem hq, List.mem_append, List.mem_singleton, pg_get hq]
theorem SortOf.new {L M : List (Rat × Rat)} {q i : Nat} (h : SortOf L q M) (hq : q < L.length) (hp : Place M (pg L q) i) (he : i = M.length ∨ 0 < cmpP (pg M i) (pg L q)) : SortOf L (q + 1) (insP M i (pg L q)) := by
  obtain ⟨h1, h2⟩ := place_new h.asc hp he
  refine ⟨h2, fun x => by rw [insP_mem, h.mem, take_succ_mem hq], ?_⟩
  rw [insP_len hp.le, h.len, dsc, if_neg]
  rw [← h.mem]; exact h1
theorem SortOf.old {L M : List (Rat × Rat)} {q i : Nat} (h : SortOf L q M) (hq : q < L.length) (hi : i < M.length) (h1 : ¬ cmpP (pg M i) (pg L q) < 0) (h2 : ¬ 0 < cmpP (pg M i) (pg L q)) : SortOf L (q + 1) M := by
  have hm := place_old hi h1 h2
  refine ⟨h.asc, fun x => by
    rw [h.mem, take_succ_mem hq]
    constructor
    · exact .inl
    · rintro (hx | rfl)
      · exact hx
      · rwa [← h.mem], ?_⟩
  rw [h.len, dsc, if_pos (by rwa [← h.mem]), Nat.add_zero]
/-- Consecutive points differ. -/
def Steps (L : List (Rat × Rat)) : Prop := ∀ i, i + 1 < L.length → pg L i ≠ pg L (i + 1)
theorem Steps.nil : Steps [] := fun i h => by simp at h
theorem Steps.snoc {L : List (Rat × Rat)} {p : Rat × Rat} (h : Steps L) (hp : L = [] ∨ pg L (L.length - 1) ≠ p) : Steps (L ++ [p]) := by
  intro i hi
  rw [List.length_append, List.length_singleton] at hi
  rcases Nat.lt_or_ge (i + 1) L.length with hlt | hge
  · rw [pg_get (by simp; omega), pg_get (by simp; omega), List.getElem_append_left (by omega), List.getElem_append_left (by omega)]
    have := h i hlt
    rwa [pg_get (by omega), pg_get (by omega)] at this
  · have e : i + 1 = L.length := by omega
    rw [pg_get (i := i) (by simp; omega), List.getElem_append_left (by omega)]
    rw [pg_get (i := i + 1) (by simp; omega), List.getElem_append_right (by omega)]
    rcases hp with hp | hp
    · subst hp; simp at e
    · rw [pg_get (by omega)] at hp
      simp only [e, Nat.sub_self, List.getElem_singleton]
      have e2 : L.length - 1 = i := by omega
      simpa only [e2] using hp
theorem Steps.take {L : List (Rat × Rat)} (h : Steps L) (k : Nat) : Steps (L.take k) := by
  intro i hi
  have hl := hi
  rw [List.length_take] at hl
  rw [pg_get (by omega), pg_get hi, List.getElem_take, List.getElem_take]
  have := h i (by omega)
  rwa [pg_get (by omega), pg_get (by omega)] at this
theorem Steps.ring {L : List (Rat × Rat)} (h : Steps L) (h3 : 3 ≤ dsc L L.length) (hc : ¬ pg L 0 = pg L (L.length - 1)) : RingOK L := by
  refine ⟨h3, fun i hi => ?_⟩
  rcases Nat.lt_or_ge (i + 1) L.length with hlt | hge
  · rw [Nat.mod_eq_of_lt hlt]; exact h i hlt
  · have e : i + 1 = L.length := by omega
    rw [e, Nat.mod_self]
    have : i = L.length - 1 := by omega
    rw [this]
    exact fun hh => hc hh.symm
theorem dsc_le (L : List (Rat × Rat)) (k : Nat) : dsc L k ≤ k := by
  induction k with
  | zero => exact Nat.le_refl _
  | succ k ih => rw [dsc]; split <;> omega
/-- A ring of three points. -/
theorem ring3 {p q r : Rat × Rat} (h1 : q ≠ p) (h2 : r ≠ p) (h3 : r ≠ q) : RingOK [p, q, r] := by
  refine ⟨dsc_three (by simp) h1 h2 h3, fun i hi => ?_⟩
  simp only [List.length_cons, List.length_nil] at hi
  rcases (by omega : i = 0 ∨ i = 1 ∨ i = 2) with rfl | rfl | rfl
  · exact fun e => h1 e.symm
  · exact fun e => h3 e.symm
  · have e : (2 + 1) % [p, q, r].length = 0 := by simp
    rw [e]; exact h2
/-- A ring of four points. -/
theorem ring4 {p q r s : Rat × Rat} (h1 : q ≠ p) (h2 : r ≠ p) (h3 : r ≠ q) (h4 : s ≠ r) (h5 : s ≠ p) : RingOK [p, q, r, s] := by
  refine ⟨dsc_three (by simp) h1 h2 h3, fun i hi => ?_⟩
  simp only [List.length_cons, List.length_nil] at hi
  rcases (by omega : i = 0 ∨ i = 1 ∨ i = 2 ∨ i = 3) with rfl | rfl | rfl | rfl
  · exact fun e => h1 e.symm
  · exact fun e => h3 e.symm
  · exact fun e => h4 e.symm
  · have e : (3 + 1) % [p, q, r, s].length = 0 := by simp
    rw [e]; exact h5
end Go.Proofs.YtdlnoeegboapkaaGreatDoor
