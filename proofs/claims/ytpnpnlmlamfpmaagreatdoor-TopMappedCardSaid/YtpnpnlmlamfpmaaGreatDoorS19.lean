import Derived.Test.YtpnpnlmlamfpmaaGreatDoorS17
import Derived.Test.YtpnpnlmlamfpmaaGreatDoorS18
import Derived.Laws.AppendOwn
namespace Go.Proofs.YtpnpnlmlamfpmaaGreatDoor
open Go.RowKit
set_option maxRecDepth 100000
section
class Rw (W : World) (v : Value) (e : outParam TypeId) (sz : outParam Nat) (n : outParam Nat) (xs : outParam (List Value)) (base : outParam Nat) (w0 : outParam World) : Prop where
 out : W.ownsRow base e sz v n xs
 lt : ∀ g, v.ownBlock = some g → g < w0.heap.size
 ltW : ∀ g, v.ownBlock = some g → g < W.heap.size
 hb : base ≤ W.heap.size
variable {W W2 w0 : World} {b n sz : Nat} {e : TypeId} {v : Value} {xs : List Value}
theorem Rw.mk1 {base : Nat} (h : W.ownsRow base e sz v n xs) (hb : base ≤ W.heap.size) : Rw W v e sz n xs base W := ⟨h, fun g e => (h.lt g e).2, fun g e => (h.lt g e).2, hb⟩
theorem Rw.here {base : Nat} (h : Rw W v e sz n xs base w0) : Rw W v e sz n xs base W := ⟨h.out, h.ltW, h.ltW, h.hb⟩
theorem Rw.nil {base : Nat} (hb : base ≤ W.heap.size) : Rw W (.slice none 0 0) e sz 0 [] base W := Rw.mk1 (World.ownsRow_nil _ _ _ _) hb
theorem Rw.keep {base : Nat} (h : Rw W v e sz n xs base w0) (hs : W.heap.size ≤ W2.heap.size) (hb : ∀ g, v.ownBlock = some g → W2.heap[g]? = W.heap[g]?) : Rw W2 v e sz n xs base w0 := by
 refine ⟨?_, h.lt, fun g e => Nat.lt_of_lt_of_le (h.ltW g e) hs, Nat.le_trans h.hb hs⟩
 obtain ⟨h1, h2⟩ := h.out
 refine ⟨h1, ?_⟩
 rcases h2 with hn | ⟨g, cap, cur, rfl, hbg, hgg, rest⟩
 ·exact .inl hn
 ·exact .inr ⟨g, cap, cur, rfl, hbg, by rw [hb g rfl]; exact hgg, rest⟩
class Ap1 (W : outParam World) (W2 : World) (base : outParam Nat) (w0 : outParam World) : Prop where out : ∃ row : Option Nat, W.grownBy W2 row ∧ ∀ k, row = some k → base ≤ k ∧ k < w0.heap.size
theorem Ap1.size {base : Nat} (h : Ap1 W W2 base w0) : W.heap.size ≤ W2.heap.size := by obtain ⟨_, h, _⟩ := h.out; exact h.size
theorem Ap1.block {base : Nat} (h : Ap1 W W2 base w0) (hb : b < W.heap.size) (hn : b < base ∨ w0.heap.size ≤ b) : W2.heap[b]? = W.heap[b]? := by
 obtain ⟨row, h, hk⟩ := h.out
 exact h.block b hb (fun e => by have := hk b e.symm; omega)
instance (priority := low) Bx.ap {base : Nat} {t : TypeId} {l : List Value} [k : Ap1 W W2 base w0] [h : Bx W b t l] [n : LtN b base] : Bx W2 b t l := ⟨by rw [k.block h.lt (.inl n.out)]; exact h.out⟩
instance (priority := low) Kp.ap {w : World} {base : Nat} [k : Ap1 W W2 base w0] [h : Kp w W] [n : Ge w base] : Kp w W2 := ⟨by
 obtain ⟨row, hg, hk⟩ := k.out
 exact h.out.grown hg h.out.size (fun x e => Nat.le_trans n.out (hk x e).1)⟩
end
section
set_option maxHeartbeats 40000000
set_option synthInstance.maxHeartbeats 1000000
set_option synthInstance.maxSize 100000
variable {a1x a1y aa1x aa1y p1x p1y p2x p2y : Option Addr} {c1x c1y cc1x cc1y k1x k1y k2x k2y l1x l1y ll1x ll1y : Nat} {g1x g1y : Bool} {w : World} {x x1 x2 y y1 y2 : Rat}
theorem K5 [h1x : CW w (.agg #[.bool g1x, .slice a1x l1x c1x, .slice aa1x ll1x cc1x]) x k1x] [h1y : CW w (.agg #[.bool g1y, .slice a1y l1y c1y, .slice aa1y ll1y cc1y]) y k1y] (b : k1x ≤ 300000 ∧ k1y ≤ 300000) :
  Calls Tryz.prog 51 #[.agg #[.bool g1x, .slice a1x l1x c1x, .slice aa1x ll1x cc1x, .bool g1y, .slice a1y l1y c1y, .slice aa1y ll1y cc1y]] w (Cd w (x) (y) (max k1x k1y + 2)) := by
 go_enter Tryz.func51, Tryz.ntmps51; go_wp2_with fail; refine rgn [w.heap.size + 1] [] fun hH => ?_; refine tk 0 hH ?_; refine tk 1 hH ?_; refine tk 3 hH ?_; refine tk 4 hH (st 2 fun K hK => ?_); go_simp; refine Ab (ofC (by omega)) ?_; intros; refine hd hK fun hH => st 5 fun K hK => ?_; go_simp; refine Ab (ofC (by omega)) ?_; intros; refine hd hK fun hH => ?_; refine tk 6 hH (st 7 fun K hK => ?_); go_simp; refine hd hK fun hH => dn ?_; clear hH; go_wp2; refine Ac rfl Tryz.underlying98 rfl (by kernel_rfl) rfl rfl rfl ?_; exact Cd.fin rfl (by omega) rfl (by omega)
variable {d1x d1y d2x d2y n1x n1y n2x n2y : Int}
theorem Ub [h1x : CF w (.agg #[.int .i64 n1x, .int .i64 d1x, .pointer p1x]) x k1x] [h1y : CF w (.agg #[.int .i64 n1y, .int .i64 d1y, .pointer p1y]) y k1y] (b : k1x ≤ 400000 ∧ k1y ≤ 400000) :
  Calls Tryz.prog 54 #[.agg #[.int .i64 n1x, .int .i64 d1x, .pointer p1x, .int .i64 n1y, .int .i64 d1y, .pointer p1y]] w (Jv w (x) (y) (max k1x k1y)) := by
 go_enter Tryz.func54, Tryz.ntmps54; go_wp2_with fail; refine rgn [w.heap.size + 1] [] fun hH => ?_; refine tk 0 hH ?_; refine tk 1 hH ?_; refine tk 3 hH ?_; refine tk 4 hH (st 2 fun K hK => ?_); go_simp; refine A9 (O6 (by omega)) ?_; intros; refine hd hK fun hH => st 5 fun K hK => ?_; go_simp; refine A9 (O6 (by omega)) ?_; intros; refine hd hK fun hH => ?_; refine tk 6 hH (st 7 fun K hK => ?_); go_simp; refine hd hK fun hH => dn ?_; clear hH; go_wp2; refine Ac rfl Tryz.underlying70 rfl (by kernel_rfl) rfl rfl rfl ?_; exact Jv.fin rfl (by omega) rfl (by omega)
theorem Ln [h1x : CF w (.agg #[.int .i64 n1x, .int .i64 d1x, .pointer p1x]) x1 k1x] [h1y : CF w (.agg #[.int .i64 n1y, .int .i64 d1y, .pointer p1y]) y1 k1y] [h2x : CF w (.agg #[.int .i64 n2x, .int .i64 d2x, .pointer p2x]) x2 k2x] [h2y : CF w (.agg #[.int .i64 n2y, .int .i64 d2y, .pointer p2y]) y2 k2y] (b : k1x ≤ 100000 ∧ k1y ≤ 100000 ∧ k2x ≤ 100000 ∧ k2y ≤ 100000) :
  Calls Tryz.prog 82 #[.agg #[.int .i64 n1x, .int .i64 d1x, .pointer p1x, .int .i64 n1y, .int .i64 d1y, .pointer p1y], .agg #[.int .i64 n2x, .int .i64 d2x, .pointer p2x, .int .i64 n2y, .int .i64 d2y, .pointer p2y]] w (Cd w (x1 + x2) (y1 + y2) (max k1x k1y + max k2x k2y + 3)) := by
 go_enter Tryz.func82, Tryz.ntmps82; go_wp2_with fail; refine rgn [w.heap.size + 1 + 1] [] fun hH => ?_; refine tk 0 hH ?_; refine tk 1 hH ?_; refine tk 2 hH ?_; refine tk 3 hH ?_; refine tk 5 hH ?_; refine tk 6 hH ?_; refine tk 7 hH ?_; refine tk 8 hH (st 4 fun K hK => ?_); go_simp; refine Ab (Gv (by omega)) ?_; intros; refine hd hK fun hH => st 9 fun K hK => ?_; go_simp; refine Ab (Gv (by omega)) ?_; intros; refine hd hK fun hH => ?_; refine tk 10 hH (st 11 fun K hK => ?_); go_simp; refine hd hK fun hH => dn ?_; clear hH; go_wp2; refine Ac rfl Tryz.underlying98 rfl (by kernel_rfl) rfl rfl rfl ?_; exact Cd.fin rfl (by omega) rfl (by omega)
theorem Qky [h1x : CF w (.agg #[.int .i64 n1x, .int .i64 d1x, .pointer p1x]) x1 k1x] [h1y : CF w (.agg #[.int .i64 n1y, .int .i64 d1y, .pointer p1y]) y1 k1y] [h2x : CF w (.agg #[.int .i64 n2x, .int .i64 d2x, .pointer p2x]) x2 k2x] [h2y : CF w (.agg #[.int .i64 n2y, .int .i64 d2y, .pointer p2y]) y2 k2y] (b : k1x ≤ 100000 ∧ k1y ≤ 100000 ∧ k2x ≤ 100000 ∧ k2y ≤ 100000) :
  Calls Tryz.prog 172 #[.agg #[.int .i64 n1x, .int .i64 d1x, .pointer p1x, .int .i64 n1y, .int .i64 d1y, .pointer p1y], .agg #[.int .i64 n2x, .int .i64 d2x, .pointer p2x, .int .i64 n2y, .int .i64 d2y, .pointer p2y]] w (Cd w (x1 - x2) (y1 - y2) (max k1x k1y + max k2x k2y + 3)) := by
 go_enter Tryz.func172, Tryz.ntmps172; go_wp2_with fail; refine rgn [w.heap.size + 1 + 1] [] fun hH => ?_; refine tk 0 hH ?_; refine tk 1 hH ?_; refine tk 2 hH ?_; refine tk 3 hH ?_; refine tk 5 hH ?_; refine tk 6 hH ?_; refine tk 7 hH ?_; refine tk 8 hH (st 4 fun K hK => ?_); go_simp; refine Ab (Dn (by omega)) ?_; intros; refine hd hK fun hH => st 9 fun K hK => ?_; go_simp; refine Ab (Dn (by omega)) ?_; intros; refine hd hK fun hH => ?_; refine tk 10 hH (st 11 fun K hK => ?_); go_simp; refine hd hK fun hH => dn ?_; clear hH; go_wp2; refine Ac rfl Tryz.underlying98 rfl (by kernel_rfl) rfl rfl rfl ?_; exact Cd.fin rfl (by omega) rfl (by omega)
theorem K3 {n2 d2 : Int} {p2 : Option Addr} {z : Rat} {k2 : Nat} [h1x : CF w (.agg #[.int .i64 n1x, .int .i64 d1x, .pointer p1x]) x1 k1x] [h1y : CF w (.agg #[.int .i64 n1y, .int .i64 d1y, .pointer p1y]) y1 k1y] [h2 : CF w (.agg #[.int .i64 n2, .int .i64 d2, .pointer p2]) z k2] (b : k1x ≤ 100000 ∧ k1y ≤ 100000 ∧ k2 ≤ 100000) :
  Calls Tryz.prog 120 #[.agg #[.int .i64 n1x, .int .i64 d1x, .pointer p1x, .int .i64 n1y, .int .i64 d1y, .pointer p1y], .agg #[.int .i64 n2, .int .i64 d2, .pointer p2]] w (Cd w (x1 * z) (y1 * z) (max k1x k1y + k2 + 2)) := by
 go_enter Tryz.func120, Tryz.ntmps120; go_wp2_with fail; refine rgn [w.heap.size + 1 + 1] [] fun hH => ?_; refine tk 0 hH ?_; refine tk 1 hH ?_; refine tk 2 hH ?_; refine tk 4 hH ?_; refine tk 5 hH ?_; refine tk 6 hH (st 3 fun K hK => ?_); go_simp; refine Ab (B4 (by omega)) ?_; intros; refine hd hK fun hH => st 7 fun K hK => ?_; go_simp; refine Ab (B4 (by omega)) ?_; intros; refine hd hK fun hH => ?_; refine tk 8 hH (st 9 fun K hK => ?_); go_simp; refine hd hK fun hH => dn ?_; clear hH; go_wp2; refine Ac rfl Tryz.underlying98 rfl (by kernel_rfl) rfl rfl rfl ?_; exact Cd.fin rfl (by omega) rfl (by omega)
theorem Gt [h1x : CF w (.agg #[.int .i64 n1x, .int .i64 d1x, .pointer p1x]) x1 k1x] [h1y : CF w (.agg #[.int .i64 n1y, .int .i64 d1y, .pointer p1y]) y1 k1y] [h2x : CF w (.agg #[.int .i64 n2x, .int .i64 d2x, .pointer p2x]) x2 k2x] [h2y : CF w (.agg #[.int .i64 n2y, .int .i64 d2y, .pointer p2y]) y2 k2y] (b : k1x ≤ 50000 ∧ k1y ≤ 50000 ∧ k2x ≤ 50000 ∧ k2y ≤ 50000) :
  Calls Tryz.prog 119 #[.agg #[.int .i64 n1x, .int .i64 d1x, .pointer p1x, .int .i64 n1y, .int .i64 d1y, .pointer p1y], .agg #[.int .i64 n2x, .int .i64 d2x, .pointer p2x, .int .i64 n2y, .int .i64 d2y, .pointer p2y]] w (Bk w (x1 * y2 - y1 * x2) (k1x + k1y + k2x + k2y + 7)) := by
 go_enter Tryz.func119, Tryz.ntmps119; go_wp2_with fail; refine rgn [w.heap.size + 1 + 1] [] fun hH => ?_; refine tk 0 hH ?_; refine tk 1 hH ?_; refine tk 2 hH ?_; refine tk 3 hH ?_; refine tk 5 hH ?_; refine tk 6 hH ?_; refine tk 7 hH ?_; refine tk 8 hH (st 4 fun K hK => ?_); go_simp; refine Ab (B4 (by omega)) ?_; intros; refine hd hK fun hH => st 9 fun K hK => ?_; go_simp; refine Ab (B4 (by omega)) ?_; intros; refine hd hK fun hH => st 10 fun K hK => ?_; go_simp; refine Ab (Dn (by omega)) ?_; intros; refine hd hK fun hH => st 11 fun K hK => ?_; go_simp; refine hd hK fun hH => dn ?_; clear hH; go_wp2; refine Ac rfl Tryz.underlying96 rfl (by kernel_rfl) rfl rfl rfl ?_; exact Bk.fin rfl (by omega)
def Rs (sx sy : Int) : Int := if sy = 1 ∨ (sy = 0 ∧ sx = 1) then 1 else if sy = -1 ∨ sx = -1 then 2 else 0
def Cj (x y : Rat) : Int := Rs (isgn x.num) (isgn y.num)
def Gs (x1 y1 x2 y2 : Rat) : Int := if Cj x1 y1 < Cj x2 y2 then -1 else if Cj x2 y2 < Cj x1 y1 then 1 else -(isgn (x1 * y2 - y1 * x2).num)
theorem Iw [h1x : CF w (.agg #[.int .i64 n1x, .int .i64 d1x, .pointer p1x]) x k1x] [h1y : CF w (.agg #[.int .i64 n1y, .int .i64 d1y, .pointer p1y]) y k1y] (b : k1x ≤ 300000 ∧ k1y ≤ 300000) :
  Calls Tryz.prog 238 #[.agg #[.int .i64 n1x, .int .i64 d1x, .pointer p1x, .int .i64 n1y, .int .i64 d1y, .pointer p1y]] w (fun e w' => e = .returned (.int .i64 (Cj x y)) ∧ Below w.heap.size w w') := by
 rcases F8 x.num with ⟨_, ex⟩ | ⟨_, ex⟩ | ⟨_, ex⟩ <;> rcases F8 y.num with ⟨_, ey⟩ | ⟨_, ey⟩ | ⟨_, ey⟩
 all_goals
  have HE := Lib.hid (show Cj x y = Rs _ _ by unfold Cj; rw [ex, ey])
  go_enter Tryz.func238, Tryz.ntmps238
  go_wp2_with (first
  | (go_at_call 129; refine Aa (Hc (by omega)) ?_; intros))
  go_ret
  exact E.fin (by rw [HE.out]; rfl)
theorem Qlk [h1x : CF w (.agg #[.int .i64 n1x, .int .i64 d1x, .pointer p1x]) x1 k1x] [h1y : CF w (.agg #[.int .i64 n1y, .int .i64 d1y, .pointer p1y]) y1 k1y] [h2x : CF w (.agg #[.int .i64 n2x, .int .i64 d2x, .pointer p2x]) x2 k2x] [h2y : CF w (.agg #[.int .i64 n2y, .int .i64 d2y, .pointer p2y]) y2 k2y] (b : k1x ≤ 50000 ∧ k1y ≤ 50000 ∧ k2x ≤ 50000 ∧ k2y ≤ 50000) :
  Calls Tryz.prog 219 #[.agg #[.int .i64 n1x, .int .i64 d1x, .pointer p1x, .int .i64 n1y, .int .i64 d1y, .pointer p1y], .agg #[.int .i64 n2x, .int .i64 d2x, .pointer p2x, .int .i64 n2y, .int .i64 d2y, .pointer p2y]] w (fun e w' => e = .returned (.int .i64 (Gs x1 y1 x2 y2)) ∧ Below w.heap.size w w') := by
 by_cases hlt : Cj x1 y1 < Cj x2 y2
 ·have HE : Hid (Gs x1 y1 x2 y2 = -1) := if_pos hlt
  go_enter Tryz.func219, Tryz.ntmps219; go_wp2_with fail; refine rgn [] [] fun hH => ?_; refine tk 0 hH ?_; refine tk 2 hH (st 1 fun K hK => ?_); go_simp; refine Aa (Iw (by omega)) ?_; intros; refine hd hK fun hH => st 3 fun K hK => ?_; go_simp; refine Aa (Iw (by omega)) ?_; intros; refine hd hK fun hH => ?_; refine tk 4 hH ?_; refine tk 5 hH (dn ?_); clear hH; go_wp2; go_ret
  exact E.fin (by rw [HE.out]; rfl)
 ·by_cases hgt : Cj x2 y2 < Cj x1 y1
  ·have HE : Hid (Gs x1 y1 x2 y2 = 1) := by show _ = _; unfold Gs; rw [if_neg hlt, if_pos hgt]
   have hlt' : Cj x2 y2 ≤ Cj x1 y1 := (by omega); clear hlt; go_enter Tryz.func219, Tryz.ntmps219; go_wp2_with fail; refine rgn [] [] fun hH => ?_; refine tk 0 hH ?_; refine tk 2 hH (st 1 fun K hK => ?_); go_simp; refine Aa (Iw (by omega)) ?_; intros; refine hd hK fun hH => st 3 fun K hK => ?_; go_simp; refine Aa (Iw (by omega)) ?_; intros; refine hd hK fun hH => ?_; refine tk 4 hH ?_; refine tk 5 hH (dn ?_); clear hH; go_wp2; go_ret
   exact E.fin (by rw [HE.out]; rfl)
  ·have HE : Hid (Gs x1 y1 x2 y2 = -(isgn (x1 * y2 - y1 * x2).num)) := by show _ = _; unfold Gs; rw [if_neg hlt, if_neg hgt]
   have hlt' : Cj x2 y2 ≤ Cj x1 y1 := (by omega); have hgt' : Cj x1 y1 ≤ Cj x2 y2 := (by omega); obtain ⟨q1, q2⟩ := Ls (x1 * y2 - y1 * x2).num; clear hlt hgt; go_enter Tryz.func219, Tryz.ntmps219; go_wp2_with fail; refine rgn [] [] fun hH => ?_; refine tk 0 hH ?_; refine tk 2 hH (st 1 fun K hK => ?_); go_simp; refine Aa (Iw (by omega)) ?_; intros; refine hd hK fun hH => st 3 fun K hK => ?_; go_simp; refine Aa (Iw (by omega)) ?_; intros; refine hd hK fun hH => ?_; refine tk 4 hH ?_; refine tk 5 hH (dn ?_); clear hH
   go_wp2_with (first
  | (go_at_call 119; refine Ab (Gt (by omega)) ?_; intros)
  | (go_at_call 129; refine Aa (Hc (by omega)) ?_; intros))
   go_ret
   exact E.fin (by rw [HE.out]; rfl)
theorem J6 [h1x : CQ w (.agg #[.bool g1x, .slice a1x l1x c1x, .slice aa1x ll1x cc1x]) x k1x] [h1y : CQ w (.agg #[.bool g1y, .slice a1y l1y c1y, .slice aa1y ll1y cc1y]) y k1y] (b : k1x ≤ 400000 ∧ k1y ≤ 400000) :
  Calls Tryz.prog 19 #[.agg #[.bool g1x, .slice a1x l1x c1x, .slice aa1x ll1x cc1x, .bool g1y, .slice a1y l1y c1y, .slice aa1y ll1y cc1y]] w (Jv w (x) (y) (max k1x k1y + 1)) := by
 go_enter Tryz.func19, Tryz.ntmps19; go_wp2_with fail; refine rgn [w.heap.size + 1] [] fun hH => ?_; refine tk 0 hH ?_; refine tk 1 hH ?_; refine tk 3 hH ?_; refine tk 4 hH (st 2 fun K hK => ?_); go_simp; refine A9 (Bj (by omega)) ?_; intros; refine hd hK fun hH => st 5 fun K hK => ?_; go_simp; refine A9 (Bj (by omega)) ?_; intros; refine hd hK fun hH => ?_; refine tk 6 hH (st 7 fun K hK => ?_); go_simp; refine hd hK fun hH => dn ?_; clear hH; go_wp2; refine Ac rfl Tryz.underlying70 rfl (by kernel_rfl) rfl rfl rfl ?_; exact Jv.fin rfl (by omega) rfl (by omega)
end
theorem Tc {x : Rat} : isgn x.num = -1 ↔ x < 0 := by
 rw [← Ke, ← Yr]
 rcases Vw x with ⟨h, _⟩ | ⟨h, _⟩ | ⟨h, _⟩ <;> omega
theorem Qna {x : Rat} : isgn x.num = 1 ↔ 0 < x := by
 rw [← Ke, ← Oz]
 rcases Vw x with ⟨h, _⟩ | ⟨h, _⟩ | ⟨h, _⟩ <;> omega
theorem Lw {x : Rat} : isgn x.num = 0 ↔ x = 0 := by
 rw [← Ke, X8]
theorem Pz {a b : Rat} (h1 : 0 < a) (h2 : 0 < b) : 0 < a * b := Rat.mul_pos h1 h2
def Hz (x y : Rat) : Int := (x.num * (y.den : Int)) / ((Nat.gcd (x.num.natAbs * y.den) (y.num.natAbs * x.den) : Nat) : Int)
theorem Mz (x y : Rat) : ((Hz x y : Int) : Rat) = x * (rgcd x y)⁻¹ := by
 have hd : x.den * y.den ≠ 0 := Nat.mul_ne_zero x.den_nz y.den_nz
 by_cases h : Nat.gcd (x.num.natAbs * y.den) (y.num.natAbs * x.den) = 0
 ·have hx : x = 0 := by
   have := Nat.eq_zero_of_gcd_eq_zero_left h
   rcases Nat.mul_eq_zero.1 this with h' | h'
   ·exact Rat.num_eq_zero.1 (by omega)
   ·exact absurd h' y.den_nz
  subst hx; unfold Hz; rw [h]; simp
 ·unfold Hz rgcd
  generalize hG : Nat.gcd (x.num.natAbs * y.den) (y.num.natAbs * x.den) = G at *
  have hdv : (G : Int) ∣ x.num * (y.den : Int) := by
   rw [← Int.natAbs_dvd_natAbs, Int.natAbs_mul]; simp only [Int.natAbs_natCast]
   rw [← hG]; exact Nat.gcd_dvd_left _ _
  obtain ⟨c, hc⟩ := hdv; have hG0 : (G : Int) ≠ 0 := (by omega); rw [hc, Int.mul_ediv_cancel_left _ hG0]
  have hGr : ((G : Int) : Rat) ≠ 0 := by exact_mod_cast hG0
  have hxd : ((x.den : Int) : Rat) ≠ 0 := by have := x.den_nz; exact_mod_cast this
  have hyd : ((y.den : Int) : Rat) ≠ 0 := by have := y.den_nz; exact_mod_cast this
  have e1 : mkRat (G : Int) (x.den * y.den) = ((G : Int) : Rat) / (((x.den : Int) : Rat) * ((y.den : Int) : Rat)) := by
   rw [Rat.mkRat_eq_div]; push_cast; rfl
  have e2 : x = (x.num : Rat) / ((x.den : Int) : Rat) := by
   have := Rat.mkRat_self x
   rw [Rat.mkRat_eq_div] at this; exact this.symm
  have e3 : (x.num : Rat) * ((y.den : Int) : Rat) = ((G : Int) : Rat) * (c : Rat) := by exact_mod_cast congrArg (fun z : Int => (z : Rat)) hc
  rw [e1]
  refine Eq.trans ?_ (congrArg (fun z : Rat => z * (((G : Int) : Rat) / (((x.den : Int) : Rat) * ((y.den : Int) : Rat)))⁻¹) e2.symm)
  show (c : Rat) = _ * _
  rw [Rat.div_def, Rat.div_def]
  generalize (x.num : Rat) = a, ((x.den : Int) : Rat) = b, ((y.den : Int) : Rat) = d, ((G : Int) : Rat) = g at *
  have i1 := Rat.mul_inv_cancel b hxd
  have i2 := Rat.mul_inv_cancel g hGr
  have i3 : (g * (b * d)⁻¹)⁻¹ = g⁻¹ * (b * d) := by rw [Rat.inv_mul_rev, Rat.inv_inv]; grind
  rw [i3]
  grind
theorem Qhi (x y : Rat) : rgcd y x = rgcd x y := by
 unfold rgcd; rw [Nat.gcd_comm, Nat.mul_comm y.den x.den]
theorem X3 (x y : Rat) (h : ¬ (x = 0 ∧ y = 0)) : Nat.gcd (Hz x y).natAbs (Hz y x).natAbs = 1 := by
 unfold Hz; rw [Nat.gcd_comm (y.num.natAbs * x.den)]; rw [I8, I8]
 ·simp only [Int.natAbs_mul, Int.natAbs_natCast]
  have h0 : 0 < Nat.gcd (x.num.natAbs * y.den) (y.num.natAbs * x.den) := by
   rcases Nat.eq_zero_or_pos (Nat.gcd (x.num.natAbs * y.den) (y.num.natAbs * x.den)) with h0 | h0
   ·exfalso
    refine h ⟨?_, ?_⟩
    ·have := Nat.eq_zero_of_gcd_eq_zero_left h0
     rcases Nat.mul_eq_zero.1 this with h' | h'
     ·exact Rat.num_eq_zero.1 (by omega)
     ·exact absurd h' y.den_nz
    ·have := Nat.eq_zero_of_gcd_eq_zero_right h0
     rcases Nat.mul_eq_zero.1 this with h' | h'
     ·exact Rat.num_eq_zero.1 (by omega)
     ·exact absurd h' x.den_nz
   ·exact h0
  rw [Nat.gcd_div (Nat.gcd_dvd_left _ _) (Nat.gcd_dvd_right _ _), Nat.div_self h0]
 ·simp only [Int.natAbs_mul, Int.natAbs_natCast]; exact Nat.gcd_dvd_right _ _
 ·simp only [Int.natAbs_mul, Int.natAbs_natCast]; exact Nat.gcd_dvd_left _ _
theorem Ky (x y : Rat) (h : ¬ (x = 0 ∧ y = 0)) : 0 < rgcd x y := by
 unfold rgcd
 have h0 : 0 < Nat.gcd (x.num.natAbs * y.den) (y.num.natAbs * x.den) := by
  rcases Nat.eq_zero_or_pos (Nat.gcd (x.num.natAbs * y.den) (y.num.natAbs * x.den)) with h0 | h0
  ·exfalso
   refine h ⟨?_, ?_⟩
   ·have := Nat.eq_zero_of_gcd_eq_zero_left h0
    rcases Nat.mul_eq_zero.1 this with h' | h'
    ·exact Rat.num_eq_zero.1 (by omega)
    ·exact absurd h' y.den_nz
   ·have := Nat.eq_zero_of_gcd_eq_zero_right h0
    rcases Nat.mul_eq_zero.1 this with h' | h'
    ·exact Rat.num_eq_zero.1 (by omega)
    ·exact absurd h' x.den_nz
  ·exact h0
 generalize Nat.gcd (x.num.natAbs * y.den) (y.num.natAbs * x.den) = G at *
 rw [Rat.mkRat_eq_div, Rat.div_def]
 refine Pz (by exact_mod_cast h0) (Rat.inv_pos.2 ?_)
 have := Nat.mul_pos (Mr x) (Mr y)
 exact_mod_cast this
theorem Qjb {a b c d : Int} (h1 : Nat.gcd a.natAbs b.natAbs = 1) (h2 : Nat.gcd c.natAbs d.natAbs = 1) {t : Rat} (ht : 0 < t) (e1 : (a : Rat) = c * t) (e2 : (b : Rat) = d * t) : a = c ∧ b = d := by
 have hd : ((t.den : Int) : Rat) ≠ 0 := by have := t.den_nz; exact_mod_cast this
 have et : t * ((t.den : Int) : Rat) = (t.num : Rat) := by
  have := Rat.mkRat_self t
  rw [Rat.mkRat_eq_div, Rat.div_def] at this
  have i := Rat.mul_inv_cancel _ hd
  have e : ((t.den : Int) : Rat) = ((t.den : Nat) : Rat) := by push_cast; rfl
  rw [e] at *
  grind
 have f1 : a * (t.den : Int) = c * t.num := by
  have : (a : Rat) * ((t.den : Int) : Rat) = c * (t.num : Rat) := by rw [e1, ← et]; grind
  exact_mod_cast this
 have f2 : b * (t.den : Int) = d * t.num := by
  have : (b : Rat) * ((t.den : Int) : Rat) = d * (t.num : Rat) := by rw [e2, ← et]; grind
  exact_mod_cast this
 have hn : 0 < t.num := by
  have := (Oz (x := t)).2 ht
  rw [Ke] at this
  rcases F8 t.num with ⟨_, h⟩ | ⟨_, h⟩ | ⟨h, _⟩ <;> omega
 have g1 : t.den = t.num.natAbs := by
  have k1 : Nat.gcd (a * (t.den : Int)).natAbs (b * (t.den : Int)).natAbs = t.den := by
   rw [Int.natAbs_mul, Int.natAbs_mul, Int.natAbs_natCast, Nat.gcd_mul_right, h1, Nat.one_mul]
  have k2 : Nat.gcd (c * t.num).natAbs (d * t.num).natAbs = t.num.natAbs := by
   rw [Int.natAbs_mul, Int.natAbs_mul, Nat.gcd_mul_right, h2, Nat.one_mul]
  rw [← k1, ← k2, f1, f2]
 have g2 : (t.den : Int) = t.num := (by omega); rw [g2] at f1 f2; exact ⟨Int.eq_of_mul_eq_mul_right (by omega) f1, Int.eq_of_mul_eq_mul_right (by omega) f2⟩
section
theorem Qhs : rgcd 0 0 = 0 := by decide +kernel
variable {t : Rat}
theorem Vk (x y : Rat) (ht : 0 < t) : rgcd (x * t) (y * t) = rgcd x y * t := by
 by_cases h : x = 0 ∧ y = 0
 ·obtain ⟨rfl, rfl⟩ := h; rw [Rat.zero_mul, Qhs, Rat.zero_mul]
 ·have ht0 : t ≠ 0 := Rat.ne_of_gt ht
  have h' : ¬ (x * t = 0 ∧ y * t = 0) := by
   rintro ⟨h1, h2⟩
   exact h ⟨(Rat.mul_eq_zero.1 h1).resolve_right ht0, (Rat.mul_eq_zero.1 h2).resolve_right ht0⟩
  have p1 := Ky x y h
  have p2 := Ky _ _ h'
  have i1 := Rat.mul_inv_cancel _ (Rat.ne_of_gt p1)
  have i2 := Rat.mul_inv_cancel _ (Rat.ne_of_gt p2)
  have q1 := Mz x y
  have q2 := Mz y x
  have q3 := Mz (x * t) (y * t)
  have q4 := Mz (y * t) (x * t)
  rw [Qhi] at q2 q4
  have hu := Qjb (X3 _ _ h') (X3 x y h) (t := t * rgcd x y * (rgcd (x * t) (y * t))⁻¹) (Pz (Pz ht p1) (Rat.inv_pos.2 p2))
   (by rw [q3, q1]; grind) (by rw [q4, q2]; grind)
  rw [hu.1, q1] at q3; rw [hu.2, q2] at q4
  generalize rgcd (x * t) (y * t) = g', rgcd x y = g at *
  rcases Classical.em (x = 0) with hx | hx
  ·have hy : y ≠ 0 := fun e => h ⟨hx, e⟩
   have : y * (g' - g * t) = 0 := by grind
   rcases Rat.mul_eq_zero.1 this with h1 | h1
   ·exact absurd h1 hy
   ·grind
  ·have : x * (g' - g * t) = 0 := by grind
   rcases Rat.mul_eq_zero.1 this with h1 | h1
   ·exact absurd h1 hx
   ·grind
theorem Zy (a b : Int) : rgcd (a : Rat) (b : Rat) = (((Nat.gcd a.natAbs b.natAbs : Nat) : Int) : Rat) := by
 rw [Xk (by rfl) (by rfl)]; rfl
def lnG (a b c : Rat) : Rat := rgcd (rgcd a b) c
def lnK (x a b c : Rat) : Rat := x * (lnG a b c)⁻¹
theorem Me {a b : Rat} (c : Rat) (h : ¬ (a = 0 ∧ b = 0)) : 0 < lnG a b c := Ky _ _ (fun e => by have := Ky a b h; rw [e.1] at this; exact absurd this (by decide))
theorem Qan (a b c : Rat) (ht : 0 < t) : lnG (a * t) (b * t) (c * t) = lnG a b c * t := by
 unfold lnG; rw [Vk _ _ ht, Vk _ _ ht]
theorem Hr (x a b c : Rat) (ht : 0 < t) : lnK (x * t) (a * t) (b * t) (c * t) = lnK x a b c := by
 unfold lnK; rw [Qan _ _ _ ht, Rat.inv_mul_rev]
 have := Rat.mul_inv_cancel t (Rat.ne_of_gt ht)
 grind
def A8 (a b c : Int) : Nat := Nat.gcd (Nat.gcd a.natAbs b.natAbs) c.natAbs
theorem Py (a b c : Int) : lnG (a : Rat) (b : Rat) (c : Rat) = ((A8 a b c : Nat) : Int) := by
 unfold lnG A8; rw [Zy, Zy]; simp
theorem Qr (a b c : Int) : ((A8 a b c : Nat) : Int) ∣ a ∧ ((A8 a b c : Nat) : Int) ∣ b ∧ ((A8 a b c : Nat) : Int) ∣ c := by
 refine ⟨?_, ?_, ?_⟩
 ·rw [← Int.natAbs_dvd_natAbs, Int.natAbs_natCast]; exact Nat.dvd_trans (Nat.gcd_dvd_left _ _) (Nat.gcd_dvd_left _ _)
 ·rw [← Int.natAbs_dvd_natAbs, Int.natAbs_natCast]; exact Nat.dvd_trans (Nat.gcd_dvd_left _ _) (Nat.gcd_dvd_right _ _)
 ·rw [← Int.natAbs_dvd_natAbs, Int.natAbs_natCast]; exact Nat.gcd_dvd_right _ _
variable {a b : Int}
theorem P5 (c : Int) (h : ¬ (a = 0 ∧ b = 0)) : 0 < A8 a b c := by
 unfold A8
 rcases Nat.eq_zero_or_pos (Nat.gcd (Nat.gcd a.natAbs b.natAbs) c.natAbs) with e | e
 ·have e1 := Nat.eq_zero_of_gcd_eq_zero_left e
  exact absurd ⟨by have := Nat.eq_zero_of_gcd_eq_zero_left e1; omega, by have := Nat.eq_zero_of_gcd_eq_zero_right e1; omega⟩ h
 ·exact e
theorem Kc {x a b c : Int} (h : ¬ (a = 0 ∧ b = 0)) (hx : ((A8 a b c : Nat) : Int) ∣ x) : lnK (x : Rat) (a : Rat) (b : Rat) (c : Rat) = ((x / ((A8 a b c : Nat) : Int) : Int) : Rat) := by
 unfold lnK; rw [Py]; obtain ⟨k, hk⟩ := hx
 have hp := P5 c h
 have hz : ((A8 a b c : Nat) : Int) ≠ 0 := (by omega)
 generalize ((A8 a b c : Nat) : Int) = g at *
 subst hk; rw [Int.mul_ediv_cancel_left _ hz]
 have hr : (g : Rat) ≠ 0 := by exact_mod_cast hz
 have := Rat.mul_inv_cancel _ hr
 have e : ((g * k : Int) : Rat) = (g : Rat) * (k : Rat) := by push_cast; rfl
 rw [e]
 grind
theorem Qdx {c : Int} (h : ¬ (a = 0 ∧ b = 0)) : A8 (a / ((A8 a b c : Nat) : Int)) (b / ((A8 a b c : Nat) : Int)) (c / ((A8 a b c : Nat) : Int)) = 1 := by
 have hp := P5 c h
 obtain ⟨h1, h2, h3⟩ := Qr a b c
 have key : ∀ x : Int, ((A8 a b c : Nat) : Int) ∣ x → (x / ((A8 a b c : Nat) : Int)).natAbs = x.natAbs / A8 a b c := fun x hx => I8 _ _ (by rw [← Int.natAbs_dvd_natAbs, Int.natAbs_natCast] at hx; exact hx)
 have e : A8 (a / ((A8 a b c : Nat) : Int)) (b / ((A8 a b c : Nat) : Int)) (c / ((A8 a b c : Nat) : Int)) = Nat.gcd (Nat.gcd (a.natAbs / A8 a b c) (b.natAbs / A8 a b c)) (c.natAbs / A8 a b c) := by
  show Nat.gcd (Nat.gcd _ _) _ = _
  rw [key a h1, key b h2, key c h3]
 rw [e]; rw [← Int.natAbs_dvd_natAbs, Int.natAbs_natCast] at h1 h2 h3; rw [Nat.gcd_div h1 h2, Nat.gcd_div (Nat.dvd_gcd h1 h2) h3]; exact Nat.div_self hp
theorem Wj (x : Rat) : x * (((x.den : Nat) : Int) : Rat) = (x.num : Rat) := by
 have hd : ((x.den : Int) : Rat) ≠ 0 := by have := x.den_nz; exact_mod_cast this
 have h := Rat.mkRat_self x
 rw [Rat.mkRat_eq_div, Rat.div_def] at h
 have i := Rat.mul_inv_cancel _ hd
 have e : ((x.den : Nat) : Rat) = ((x.den : Int) : Rat) := by push_cast; rfl
 rw [e] at h
 generalize ((x.den : Int) : Rat) = d, (x.num : Rat) = n at *
 grind
theorem Po (x : Rat) {m : Nat} (h : x.den ∣ m) : x * ((m : Int) : Rat) = ((x * ((m : Int) : Rat)).num : Rat) := by
 obtain ⟨k, rfl⟩ := h
 have e : x * (((x.den * k : Nat) : Int) : Rat) = ((x.num * (k : Int) : Int) : Rat) := by
  have := Wj x
  have e1 : (((x.den * k : Nat) : Int) : Rat) = (((x.den : Nat) : Int) : Rat) * ((k : Int) : Rat) := by push_cast; rfl
  have e2 : ((x.num * (k : Int) : Int) : Rat) = (x.num : Rat) * ((k : Int) : Rat) := by push_cast; rfl
  rw [e1, e2, ← this]; grind
 rw [e]; rfl
end
section
set_option maxHeartbeats 40000000
set_option synthInstance.maxHeartbeats 1000000
set_option synthInstance.maxSize 100000
variable {a1x a1y aa1x aa1y : Option Addr} {c1x c1y cc1x cc1y k1x k1y k2x k2y l1x l1y ll1x ll1y : Nat} {g1x g1y : Bool} {w : World} {x1 x2 y1 y2 : Rat}
theorem Xc {g2 g3x g3y : Bool} {a2 aa2 a3x aa3x a3y aa3y : Option Addr} {l2 c2 ll2 cc2 l3x c3x ll3x cc3x l3y c3y ll3y cc3y k2 k3x k3y : Nat} {z : Rat} [h1x : CQ w (.agg #[.bool g1x, .slice a1x l1x c1x, .slice aa1x ll1x cc1x]) x1 k1x] [h1y : CQ w (.agg #[.bool g1y, .slice a1y l1y c1y, .slice aa1y ll1y cc1y]) y1 k1y] [h2 : CQ w (.agg #[.bool g2, .slice a2 l2 c2, .slice aa2 ll2 cc2]) z k2] [h3x : CQ w (.agg #[.bool g3x, .slice a3x l3x c3x, .slice aa3x ll3x cc3x]) x2 k3x] [h3y : CQ w (.agg #[.bool g3y, .slice a3y l3y c3y, .slice aa3y ll3y cc3y]) y2 k3y] (b : k1x ≤ 10000 ∧ k1y ≤ 10000 ∧ k2 ≤ 10000 ∧ k3x ≤ 10000 ∧ k3y ≤ 10000) :
  Calls Tryz.prog 60 #[.agg #[.bool g1x, .slice a1x l1x c1x, .slice aa1x ll1x cc1x, .bool g1y, .slice a1y l1y c1y, .slice aa1y ll1y cc1y], .agg #[.bool g2, .slice a2 l2 c2, .slice aa2 ll2 cc2], .agg #[.bool g3x, .slice a3x l3x c3x, .slice aa3x ll3x cc3x, .bool g3y, .slice a3y l3y c3y, .slice aa3y ll3y cc3y]] w (Ld w (x1 + z * x2) (y1 + z * y2) (max k1x k1y + k2 + max k3x k3y + 8)) := by
 go_enter Tryz.func60, Tryz.ntmps60; go_wp2_with fail; refine rgn [w.heap.size + 1 + 1 + 1] [] fun hH => ?_; refine tk 0 hH ?_; refine tk 1 hH ?_; refine tk 2 hH ?_; refine tk 3 hH ?_; refine tk 4 hH ?_; refine tk 7 hH ?_; refine tk 8 hH ?_; refine tk 9 hH ?_; refine tk 10 hH ?_; refine tk 11 hH (st 5 fun K hK => ?_); go_simp; refine A3 (Ip (by omega)) ?_; intros; refine hd hK fun hH => st 6 fun K hK => ?_; go_simp; refine A3 (Np (by omega)) ?_; intros; refine hd hK fun hH => st 12 fun K hK => ?_; go_simp; refine A3 (Ip (by omega)) ?_; intros; refine hd hK fun hH => st 13 fun K hK => ?_; go_simp; refine A3 (Np (by omega)) ?_; intros; refine hd hK fun hH => ?_; refine tk 14 hH (st 15 fun K hK => ?_); go_simp; refine hd hK fun hH => dn ?_; clear hH; go_wp2; refine Ac rfl Tryz.underlying40 rfl (by kernel_rfl) rfl rfl rfl ?_; exact Ld.fin rfl (by omega) rfl (by omega)
theorem Zb {g2x g2y : Bool} {a2x aa2x a2y aa2y : Option Addr} {l2x c2x ll2x cc2x l2y c2y ll2y cc2y : Nat} [h1x : CQ w (.agg #[.bool g1x, .slice a1x l1x c1x, .slice aa1x ll1x cc1x]) x1 k1x] [h1y : CQ w (.agg #[.bool g1y, .slice a1y l1y c1y, .slice aa1y ll1y cc1y]) y1 k1y] [h2x : CQ w (.agg #[.bool g2x, .slice a2x l2x c2x, .slice aa2x ll2x cc2x]) x2 k2x] [h2y : CQ w (.agg #[.bool g2y, .slice a2y l2y c2y, .slice aa2y ll2y cc2y]) y2 k2y] (b : k1x ≤ 9000 ∧ k1y ≤ 9000 ∧ k2x ≤ 9000 ∧ k2y ≤ 9000) :
  Calls Tryz.prog 59 #[.agg #[.bool g1x, .slice a1x l1x c1x, .slice aa1x ll1x cc1x, .bool g1y, .slice a1y l1y c1y, .slice aa1y ll1y cc1y], .agg #[.bool g2x, .slice a2x l2x c2x, .slice aa2x ll2x cc2x, .bool g2y, .slice a2y l2y c2y, .slice aa2y ll2y cc2y]] w (Ei w (x1 * y2 - y1 * x2) (k1x + k1y + k2x + k2y + 12)) := by
 go_enter Tryz.func59, Tryz.ntmps59; go_wp2_with fail; refine rgn [w.heap.size + 1 + 1] [] fun hH => ?_; refine tk 0 hH ?_; refine tk 1 hH ?_; refine tk 2 hH ?_; refine tk 3 hH ?_; refine tk 5 hH ?_; refine tk 6 hH ?_; refine tk 7 hH ?_; refine tk 8 hH (st 4 fun K hK => ?_); go_simp; refine A3 (Ip (by omega)) ?_; intros; refine hd hK fun hH => st 9 fun K hK => ?_; go_simp; refine A3 (Ip (by omega)) ?_; intros; refine hd hK fun hH => st 10 fun K hK => ?_; go_simp; refine A3 (Nr (by omega)) ?_; intros; refine hd hK fun hH => st 11 fun K hK => ?_; go_simp; refine hd hK fun hH => dn ?_; clear hH; go_wp2; refine Ac rfl Tryz.underlying30 rfl (by kernel_rfl) rfl rfl rfl ?_; exact Ei.fin rfl (by omega)
theorem Ej {n1x d1x n1y d1y n2x d2x n2y d2y : Int} {p1x p1y p2x p2y : Option Addr} [h1x : CF w (.agg #[.int .i64 n1x, .int .i64 d1x, .pointer p1x]) x1 k1x] [h1y : CF w (.agg #[.int .i64 n1y, .int .i64 d1y, .pointer p1y]) y1 k1y] [h2x : CF w (.agg #[.int .i64 n2x, .int .i64 d2x, .pointer p2x]) x2 k2x] [h2y : CF w (.agg #[.int .i64 n2y, .int .i64 d2y, .pointer p2y]) y2 k2y] (b : k1x ≤ 50000 ∧ k1y ≤ 50000 ∧ k2x ≤ 50000 ∧ k2y ≤ 50000) :
  Calls Tryz.prog 138 #[.agg #[.int .i64 n1x, .int .i64 d1x, .pointer p1x, .int .i64 n1y, .int .i64 d1y, .pointer p1y], .agg #[.int .i64 n2x, .int .i64 d2x, .pointer p2x, .int .i64 n2y, .int .i64 d2y, .pointer p2y]] w (Bk w (x1 * x2 + y1 * y2) (k1x + k1y + k2x + k2y + 7)) := by
 go_enter Tryz.func138, Tryz.ntmps138; go_wp2_with fail; refine rgn [w.heap.size + 1 + 1] [] fun hH => ?_; refine tk 0 hH ?_; refine tk 1 hH ?_; refine tk 2 hH ?_; refine tk 3 hH ?_; refine tk 5 hH ?_; refine tk 6 hH ?_; refine tk 7 hH ?_; refine tk 8 hH (st 4 fun K hK => ?_); go_simp; refine Ab (B4 (by omega)) ?_; intros; refine hd hK fun hH => st 9 fun K hK => ?_; go_simp; refine Ab (B4 (by omega)) ?_; intros; refine hd hK fun hH => st 10 fun K hK => ?_; go_simp; refine Ab (Gv (by omega)) ?_; intros; refine hd hK fun hH => st 11 fun K hK => ?_; go_simp; refine hd hK fun hH => dn ?_; clear hH; go_wp2; refine Ac rfl Tryz.underlying96 rfl (by kernel_rfl) rfl rfl rfl ?_; exact Bk.fin rfl (by omega)
end
section
set_option maxHeartbeats 40000000
set_option synthInstance.maxHeartbeats 1000000
set_option synthInstance.maxSize 100000
class RL (W : World) (v : Value) (l : outParam (List Nat)) : Prop where out : Rd W v l
variable {W w : World} {v : Value}
instance RL.al {l : (List Nat)} {o : Obj} [h : RL W v l] : RL (W.alloc o) v l := ⟨h.out.keep (Bh _ _)⟩
instance RL.kp {W2 : World} {l : (List Nat)} [b : Kp1 W W2] [h : RL W v l] : RL W2 v l := ⟨h.out.keep (b.out)⟩
variable {L l : List Nat}
instance (priority := low) CR.ofL [h : RL W v l] : CR W v (val l) l.length := ⟨.of_rd h.out (Nat.le_refl _)⟩
theorem RL.len {a : Option Addr} {n c : Nat} (h : RL W (.slice a n c) l) : n = l.length := h.out.len
theorem Lu (n : Nat) : Cz (nf n) = true := by
 by_cases h : n = 0
 ·subst h; rfl
 ·exact Wk (Ic n h)
theorem Qfl (hl : Dig l) : Cz l = true ↔ l = nf (val l) := by
 constructor
 ·intro h
  refine (Qe6 hl ?_).symm
  simp only [Cz, Bool.or_eq_true, decide_eq_true_eq] at h
  rcases h with h | h
  ·left; exact List.eq_nil_of_length_eq_zero h
  ·right; exact h
 ·intro h; rw [h]; exact Lu _
def Ga (g : Bool) (l : List Nat) : Bool := Cz l && (!g || decide (0 < l.length))
def Pw (g : Bool) (l ll : List Nat) : Bool := Ga g l && Cz ll && decide (0 < ll.length) && decide (Nat.gcd (val l) (val ll) = 1)
variable {a1 : Option Addr} {c1 l1 : Nat}
theorem Ho {v : Bool} [h1 : RL w (.slice a1 l1 c1) L] (hv : Hid (Cz L = v)) :
  Calls Tryz.prog 167 #[.slice a1 l1 c1] w fun e w' => e = .returned (.bool v) ∧ w = w' := by
 rw [← hv.out]; exact Qk2 _ _ _ h1.out
variable {g1 : Bool}
theorem H3 {v : Bool} [h1 : RL w (.slice a1 l1 c1) L] (hv : Hid (Ga g1 L = v)) :
  Calls Tryz.prog 166 #[.agg #[.bool g1, .slice a1 l1 c1]] w fun e w' => e = .returned (.bool v) ∧ Below w.heap.size w w' := by
 have hl := h1.len
 have HV : Hid ((Cz L && (!g1 || decide (0 < l1))) = v) := by show _ = _; rw [hl]; exact hv.out
 clear hv hl; obtain ⟨b, hb⟩ : ∃ b, Cz L = b := ⟨_, rfl⟩; rw [hb] at HV; have HB := Lib.hid hb; clear hb
 by_cases hp : 0 < l1
 ·have hp2 : decide (0 < l1) = true := decide_eq_true hp
  rw [hp2] at HV
  cases b <;> cases g1
  all_goals
   go_enter Tryz.func166, Tryz.ntmps166
   go_wp2_with (first
  | (go_at_call 167; refine Aq (Ho HB) ?_; intros))
   go_ret
   exact E.fin (by rw [← HV.out]; rfl)
 ·have hp2 : decide (0 < l1) = false := decide_eq_false hp
  obtain rfl : l1 = 0 := by omega
  clear hp; rw [hp2] at HV
  cases b <;> cases g1
  all_goals
   go_enter Tryz.func166, Tryz.ntmps166
   go_wp2_with (first
  | (go_at_call 167; refine Aq (Ho HB) ?_; intros))
   go_ret
   exact E.fin (by rw [← HV.out]; rfl)
theorem Qlg {v : Bool} {aa1 : Option Addr} {ll1 cc1 : Nat} {LL : List Nat} [h1 : RL w (.slice a1 l1 c1) L] [h1' : RL w (.slice aa1 ll1 cc1) LL] (b1 : L.length ≤ 900000 ∧ LL.length ≤ 900000) (hv : Hid (Pw g1 L LL = v)) :
  Calls Tryz.prog 115 #[.agg #[.bool g1, .slice a1 l1 c1, .slice aa1 ll1 cc1]] w fun e w' => e = .returned (.bool v) ∧ Below w.heap.size w w' := by
 have hl := h1'.len
 have HV : Hid ((Ga g1 L && Cz LL && decide (0 < ll1) && decide (Nat.gcd (val L) (val LL) = 1)) = v) := by show _ = _; rw [hl]; exact hv.out
 clear hv; obtain ⟨b, hb⟩ : ∃ b, Ga g1 L = b := ⟨_, rfl⟩; obtain ⟨c, hc⟩ : ∃ c, Cz LL = c := ⟨_, rfl⟩; rw [hb, hc] at HV; have HB := Lib.hid hb; have HC := Lib.hid hc
 have hg0 : val LL ≠ 0 → Nat.gcd (val L) (val LL) ≠ 0 := fun h e => h (Nat.eq_zero_of_gcd_eq_zero_right e)
 have hz : c = true → 0 < ll1 → val LL ≠ 0 := fun h1 h2 e => by
  rw [h1] at hc
  have := (Qfl h1'.out.dig).1 hc
  rw [e] at this; rw [hl, this] at h2; simp [Ef] at h2
 clear hb hc hl
 cases b
 ·go_enter Tryz.func115, Tryz.ntmps115
  go_wp2_with (first
  | (go_at_call 166; refine Aa (H3 HB) ?_; intros)
  | (go_at_call 167; refine Aq (Ho HC) ?_; intros)
  | (go_at_call 169; refine Ae (De (by omega)) ?_; intros)
  | (go_at_call 168; refine Aq (Dh (by omega)) ?_; intros))
  go_ret
  exact E.fin (by rw [← HV.out]; rfl)
 cases c
 ·go_enter Tryz.func115, Tryz.ntmps115
  go_wp2_with (first
  | (go_at_call 166; refine Aa (H3 HB) ?_; intros)
  | (go_at_call 167; refine Aq (Ho HC) ?_; intros)
  | (go_at_call 169; refine Ae (De (by omega)) ?_; intros)
  | (go_at_call 168; refine Aq (Dh (by omega)) ?_; intros))
  go_ret
  exact E.fin (by rw [← HV.out]; rfl)
 by_cases hp : 0 < ll1
 ·have hgz := hg0 (hz rfl hp)
  rw [show decide (0 < ll1) = true from decide_eq_true hp] at HV
  clear hg0 hz
  by_cases hg : Nat.gcd (val L) (val LL) = 1
  ·rw [show decide (Nat.gcd (val L) (val LL) = 1) = true from decide_eq_true hg] at HV
   have hn : (((nbits (Nat.gcd (val L) (val LL)) : Nat) : Int) == 1) = true := by rw [hg]; decide +kernel
   clear hg hgz; go_enter Tryz.func115, Tryz.ntmps115
   go_wp2_with (first
  | (go_at_call 166; refine Aa (H3 HB) ?_; intros)
  | (go_at_call 167; refine Aq (Ho HC) ?_; intros)
  | (go_at_call 169; refine Ae (De (by omega)) ?_; intros)
  | (go_at_call 168; refine Aq (Dh (by omega)) ?_; intros))
   go_ret
   exact E.fin (by rw [← HV.out]; rfl)
  ·rw [show decide (Nat.gcd (val L) (val LL) = 1) = false from decide_eq_false hg] at HV
   have hn : (((nbits (Nat.gcd (val L) (val LL)) : Nat) : Int) == 1) = false := by
    rw [beq_eq_false_iff_ne]
    have := @Qmw (Nat.gcd (val L) (val LL))
    omega
   clear hg hgz; go_enter Tryz.func115, Tryz.ntmps115
   go_wp2_with (first
  | (go_at_call 166; refine Aa (H3 HB) ?_; intros)
  | (go_at_call 167; refine Aq (Ho HC) ?_; intros)
  | (go_at_call 169; refine Ae (De (by omega)) ?_; intros)
  | (go_at_call 168; refine Aq (Dh (by omega)) ?_; intros))
   go_ret
   exact E.fin (by rw [← HV.out]; rfl)
 ·rw [show decide (0 < ll1) = false from decide_eq_false hp] at HV
  obtain rfl : ll1 = 0 := by omega
  clear hp hg0 hz; go_enter Tryz.func115, Tryz.ntmps115
  go_wp2_with (first
  | (go_at_call 166; refine Aa (H3 HB) ?_; intros)
  | (go_at_call 167; refine Aq (Ho HC) ?_; intros)
  | (go_at_call 169; refine Ae (De (by omega)) ?_; intros)
  | (go_at_call 168; refine Aq (Dh (by omega)) ?_; intros))
  go_ret
  exact E.fin (by rw [← HV.out]; rfl)
end
end Go.Proofs.YtpnpnlmlamfpmaaGreatDoor
