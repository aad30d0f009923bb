import Derived.Test.YtpnpnlmlamfpmaaGreatDoorS41
namespace Go.Proofs.YtpnpnlmlamfpmaaGreatDoor
set_option linter.unusedSimpArgs false
set_option linter.unusedVariables false
set_option maxHeartbeats 4000000
set_option maxRecDepth 100000
set_option synthInstance.maxHeartbeats 1000000
set_option synthInstance.maxSize 100000
section
open Go.RowKit Cel
instance boxT_m26 : BoxT 32 := by constructor <;> decide
theorem MW.one (e : MW) : ∀ u ∈ ([.bool e.a.g, .slice e.a.a e.a.l e.a.c, .slice e.a.b e.a.m e.a.d, .bool e.b.g, .slice e.b.a e.b.l e.b.c, .slice e.b.b e.b.m e.b.d, .bool e.c.g, .slice e.c.a e.c.l e.c.c, .slice e.c.b e.c.m e.c.d, .bool e.d.g, .slice e.d.a e.d.l e.d.c, .slice e.d.b e.d.m e.d.d, .bool e.e.g, .slice e.e.a e.e.l e.e.c, .slice e.e.b e.e.m e.e.d, .bool e.f.g, .slice e.f.a e.f.l e.f.c, .slice e.f.b e.f.m e.f.d] : List Value), u.oneCell' = true := by
 intro u hu; simp only [List.mem_cons, List.not_mem_nil, or_false] at hu; rcases hu with rfl | rfl | rfl | rfl | rfl | rfl | rfl | rfl | rfl | rfl | rfl | rfl | rfl | rfl | rfl | rfl | rfl | rfl <;> rfl
variable {W W2 w : World}
theorem Nf {ops : Array Oper} {rest : List Oper} {o : Oper} {a : Act} {Q : Exit → Act → World → Prop} (hg : o.guard = none) (ty : TypeId) (x y : Operand) (ho : o.op = .store ty x y) (hd : o.dst = none) {b : Nat} (hx : a.eval x = .pointer (some ⟨b, 0, none⟩)) {l' : List Value} (hy : a.eval y = .agg l'.toArray)
  {t : TypeId} {l : List Value} [hb : Bx W b t l] (hi : (Tryz.prog.info? ty).map (·.size) = some l'.length) (hold : l.length = l'.length) (h1 : ∀ u ∈ l', u.oneCell' = true) [s : SoftB W b]
  (hK : ∀ W' [Sr1 W W' b] [Bx W' b t l'], wpList Tryz.prog ops Q rest a W') : wpList Tryz.prog ops Q (o :: rest) a W := by
 refine wpList_plain hg fun K hKK => ?_
 refine wp_store_row ty x y ho b l'.toArray hx hy t l.toArray hb.out (by rw [hi]; simp) (by simpa using hold) ?_ ?_
 ·rw [List.all_toArray]; exact List.all_eq_true.2 h1
 ·obtain ⟨i1, i2⟩ := N7 (W := W) (g := b) (R' := l'); rw [hd]; exact hKK _ _ (@hK _ i1 i2)
variable {g t : Nat}
instance (priority := low) Ct.sr [k : Sr1 W W2 g] [n : LtN t g] [h : Ct W t] : Ct W2 t := ⟨h.out.same fun j hj => k.gb.block j (Nat.lt_of_le_of_lt hj h.out.lt) (fun e => by injection e with e; have := n.out; omega)⟩
instance (priority := low) Gb.sr2 [k : Sr1 W W2 g] [h : Gb w W t] [n : Ge w g] : Gb w W2 t := ⟨⟨k.gb.os.trans h.out.os, k.gb.tape.trans h.out.tape, k.gb.output.trans h.out.output, Nat.le_trans h.out.size k.gb.size, fun j hj hn => by
 rw [k.gb.block j (Nat.lt_of_lt_of_le hj h.out.size) (fun e => by injection e with e; have := n.out; omega)]; exact h.out.block j hj hn⟩⟩
def Wy (w : World) (t : Nat) (e : Ending) (w' : World) : Prop := ∃ (u : QW) (x : Rat), e = .returned (.agg #[.bool u.g, .slice u.a u.l u.c, .slice u.b u.m u.d]) ∧ CQ w' (.agg #[.bool u.g, .slice u.a u.l u.c, .slice u.b u.m u.d]) x 4 ∧ Six 27 x ∧ Ct w' t ∧ Gb w w' t
variable {K : Ending → World → Prop} {P : Program} {args : Array Value}
theorem Hw {f : FuncId} [ht : Ct w t] (h : Calls P f args w (Wy w t))
  (hK : ∀ w' [Tp1 w w' t] [Ct w' t] (u : QW) (x : Rat) [CQ w' (.agg #[.bool u.g, .slice u.a u.l u.c, .slice u.b u.m u.d]) x 4], Hid (Six 27 x) → K (.returned (.agg #[.bool u.g, .slice u.a u.l u.c, .slice u.b u.m u.d])) w') : Calls P f args w K := by
 refine h.mono ?_
 rintro e w' ⟨u, x, rfl, h1, h2, h3, h4⟩
 exact @hK w' ⟨h4.out, ht.out⟩ h3 u x h1 h2
variable {n : Int}
theorem Ol (h : -4 ≤ n ∧ n ≤ 4) : Six 27 ((n : Int) : Rat) := ⟨6 * n, by have := Jw; rw [Rat.intCast_mul]; generalize ((6 : Int) : Rat)⁻¹ = s at *; grind, by omega, by omega⟩
theorem Vo {d e : Nat} (he : d * e = 6) (h : -27 ≤ e * n ∧ e * n ≤ 27) : Six 27 (mkRat n d) := by
 refine ⟨e * n, ?_, h⟩
 have h6 := Jw
 have hd : d ≠ 0 := fun e0 => by subst e0; simp at he
 have h6' : ((6 : Int) : Rat) = (d : Rat) * (e : Rat) := by
  have : ((6 : Nat) : Rat) = ((d * e : Nat) : Rat) := by rw [he]
  rw [← Rat.natCast_mul]; exact this
 have hdr : (d : Rat) ≠ 0 := fun e0 => hd (by exact_mod_cast e0)
 have hi := Rat.mul_inv_cancel (d : Rat) hdr
 rw [Rat.mkRat_eq_div, Rat.div_def, Rat.intCast_mul]; rw [h6'] at h6 ⊢
 generalize ((d : Rat) * (e : Rat))⁻¹ = s at *
 have : ((e : Int) : Rat) = (e : Rat) := rfl
 rw [this]
 generalize (d : Rat)⁻¹ = u at *
 have e1 : u = (e : Rat) * s := by
  have : u * ((d : Rat) * e * s) = u := by rw [h6]; grind
  grind
 rw [e1]; grind
theorem Hm [ht : Ct w t] : Calls Tryz.prog 22 #[.pointer (some ⟨t, 0, none⟩)] w (Wy w t) := by
 go_enter Tryz.func22, Tryz.ntmps22
 go_wp2_with (first
  | (go_at_call 8; refine D6 (D5 (by omega)) ?_; intros)
  | (go_at_call 56; refine A3 (Wh (by omega)) ?_; intros)
  | (go_at_call 21; refine A3 (Fj (by omega)) ?_; intros))
 all_goals
  refine Ac rfl Tryz.underlying30 rfl (by kernel_rfl) rfl rfl rfl ?_
  refine ⟨⟨_, _, _, _, _, _, _⟩, _, rfl, CQ.cast ii rfl (by omega), ?_, ii, ii⟩
 ·exact Vo (e := 3) rfl (by omega)
 ·exact Vo (e := 2) rfl (by omega)
 all_goals exact Ol (by omega)
class MkQ (W : World) (v : MW) (m : outParam Aff) : Prop where
 a : CQ W (.agg #[.bool v.a.g, .slice v.a.a v.a.l v.a.c, .slice v.a.b v.a.m v.a.d]) m.A 4
 b : CQ W (.agg #[.bool v.b.g, .slice v.b.a v.b.l v.b.c, .slice v.b.b v.b.m v.b.d]) m.B 4
 c : CQ W (.agg #[.bool v.c.g, .slice v.c.a v.c.l v.c.c, .slice v.c.b v.c.m v.c.d]) m.C 4
 d : CQ W (.agg #[.bool v.d.g, .slice v.d.a v.d.l v.d.c, .slice v.d.b v.d.m v.d.d]) m.D 4
 e : CQ W (.agg #[.bool v.e.g, .slice v.e.a v.e.l v.e.c, .slice v.e.b v.e.m v.e.d]) m.E 4
 f : CQ W (.agg #[.bool v.f.g, .slice v.f.a v.f.l v.f.c, .slice v.f.b v.f.m v.f.d]) m.F 4
variable {m : Aff} {v : MW}
instance MkQ.al {o : Obj}  [h : MkQ W v m] : MkQ (W.alloc o) v m := ⟨by have := h.a; exact ii, by have := h.b; exact ii, by have := h.c; exact ii, by have := h.d; exact ii, by have := h.e; exact ii, by have := h.f; exact ii⟩
instance MkQ.dr   [h : MkQ W v m] : MkQ W.drew v m := ⟨by have := h.a; exact ii, by have := h.b; exact ii, by have := h.c; exact ii, by have := h.d; exact ii, by have := h.e; exact ii, by have := h.f; exact ii⟩
instance (priority := low) MkQ.kp [kb : Kp1 W W2] [h : MkQ W v m] : MkQ W2 v m := ⟨by have := h.a; exact ii, by have := h.b; exact ii, by have := h.c; exact ii, by have := h.d; exact ii, by have := h.e; exact ii, by have := h.f; exact ii⟩
instance (priority := low) MkQ.tp [kb : Tp1 W W2 g] [h : MkQ W v m] : MkQ W2 v m := ⟨by have := h.a; exact ii, by have := h.b; exact ii, by have := h.c; exact ii, by have := h.d; exact ii, by have := h.e; exact ii, by have := h.f; exact ii⟩
def Vq (w : World) (t : Nat) (e : Ending) (w' : World) : Prop := ∃ (v : MW) (m : Aff), e = .returned (.agg #[.bool v.a.g, .slice v.a.a v.a.l v.a.c, .slice v.a.b v.a.m v.a.d, .bool v.b.g, .slice v.b.a v.b.l v.b.c, .slice v.b.b v.b.m v.b.d, .bool v.c.g, .slice v.c.a v.c.l v.c.c, .slice v.c.b v.c.m v.c.d, .bool v.d.g, .slice v.d.a v.d.l v.d.c, .slice v.d.b v.d.m v.d.d, .bool v.e.g, .slice v.e.a v.e.l v.e.c, .slice v.e.b v.e.m v.e.d, .bool v.f.g, .slice v.f.a v.f.l v.f.c, .slice v.f.b v.f.m v.f.d]) ∧ MkQ w' v m ∧ Kq m ∧ Ct w' t ∧ Gb w w' t
theorem Qft {f : FuncId} [ht : Ct w t] (h : Calls P f args w (Vq w t))
  (hK : ∀ w' [Tp1 w w' t] [Ct w' t] (v : MW) (m : Aff) [MkQ w' v m], Hid (Kq m) → K (.returned (.agg #[.bool v.a.g, .slice v.a.a v.a.l v.a.c, .slice v.a.b v.a.m v.a.d, .bool v.b.g, .slice v.b.a v.b.l v.b.c, .slice v.b.b v.b.m v.b.d, .bool v.c.g, .slice v.c.a v.c.l v.c.c, .slice v.c.b v.c.m v.c.d, .bool v.d.g, .slice v.d.a v.d.l v.d.c, .slice v.d.b v.d.m v.d.d, .bool v.e.g, .slice v.e.a v.e.l v.e.c, .slice v.e.b v.e.m v.e.d, .bool v.f.g, .slice v.f.a v.f.l v.f.c, .slice v.f.b v.f.m v.f.d])) w') : Calls P f args w K := by
 refine h.mono ?_
 rintro e w' ⟨v, m, rfl, h1, h2, h3, h4⟩
 exact @hK w' ⟨h4.out, ht.out⟩ h3 v m h1 h2
theorem Qkr [ht : Ct w t] : Calls Tryz.prog 5 #[.pointer (some ⟨t, 0, none⟩)] w (Vq w t) := by
 have htl : LtN t w.heap.size := ⟨ht.out.lt⟩; go_enter Tryz.func5, Tryz.ntmps5; go_wp2_with fail
 refine A3 (Fj (by decide)) ?_
 intro W1 _ g1 a1 l1 c1 aa1 ll1 cc1 _; go_wp2_with fail
 refine A3 (Fj (by decide)) ?_
 intro W2 _ g2 a2 l2 c2 aa2 ll2 cc2 _; go_wp2_with fail
 refine Hw Hm ?_
 intro W3 _ _ u3 x3 _ h3; go_wp2_with fail
 refine Hw Hm ?_
 intro W4 _ _ u4 x4 _ h4; go_wp2_with fail
 refine D6 (D5 (by omega)) ?_
 intro W5 _ _ v5 h50 h51
 have z1 : CQ W5 (.agg #[.bool (⟨g1, a1, l1, c1, aa1, ll1, cc1⟩ : QW).g, .slice (⟨g1, a1, l1, c1, aa1, ll1, cc1⟩ : QW).a (⟨g1, a1, l1, c1, aa1, ll1, cc1⟩ : QW).l (⟨g1, a1, l1, c1, aa1, ll1, cc1⟩ : QW).c, .slice (⟨g1, a1, l1, c1, aa1, ll1, cc1⟩ : QW).b (⟨g1, a1, l1, c1, aa1, ll1, cc1⟩ : QW).m (⟨g1, a1, l1, c1, aa1, ll1, cc1⟩ : QW).d]) ((1 : Int) : Rat) 4 := CQ.cast (k := 2) ii rfl (by decide)
 have z2 : CQ W5 (.agg #[.bool (⟨g2, a2, l2, c2, aa2, ll2, cc2⟩ : QW).g, .slice (⟨g2, a2, l2, c2, aa2, ll2, cc2⟩ : QW).a (⟨g2, a2, l2, c2, aa2, ll2, cc2⟩ : QW).l (⟨g2, a2, l2, c2, aa2, ll2, cc2⟩ : QW).c, .slice (⟨g2, a2, l2, c2, aa2, ll2, cc2⟩ : QW).b (⟨g2, a2, l2, c2, aa2, ll2, cc2⟩ : QW).m (⟨g2, a2, l2, c2, aa2, ll2, cc2⟩ : QW).d]) ((1 : Int) : Rat) 4 := CQ.cast (k := 2) ii rfl (by decide)
 have S1 := Lib.hid (Ol (n := 1) (by decide)); have S0 := Lib.hid (Ol (n := 0) (by decide))
 by_cases e0 : v5 = 0
 ·subst e0; go_wp2_with fail
  refine Hw Hm ?_
  intro W6 _ _ u6 x6 _ h6; go_wp2_with fail
  refine Hw Hm ?_
  intro W7 _ _ u7 x7 _ h7; go_wp2_with fail
  refine Hw Hm ?_
  intro W8 _ _ u8 x8 _ h8; go_wp2_with fail
  refine Hw Hm ?_
  intro W9 _ _ u9 x9 _ h9
  go_wp2_with (first | (refine A0 (t := 32) (x := .tmp 3) rfl rfl rfl (Bc Tryz.underlying32 rfl (by kernel_rfl)) ?_) | (refine Nf rfl 32 (.tmp 2) (.tmp 42) rfl rfl rfl (l' := [.bool u6.g, .slice u6.a u6.l u6.c, .slice u6.b u6.m u6.d, .bool u7.g, .slice u7.a u7.l u7.c, .slice u7.b u7.m u7.d, .bool u3.g, .slice u3.a u3.l u3.c, .slice u3.b u3.m u3.d, .bool u8.g, .slice u8.a u8.l u8.c, .slice u8.b u8.m u8.d, .bool u9.g, .slice u9.a u9.l u9.c, .slice u9.b u9.m u9.d, .bool u4.g, .slice u4.a u4.l u4.c, .slice u4.b u4.m u4.d]) rfl (by kernel_rfl) (by simp only [List.length_cons, List.length_nil]) (MW.one (⟨u6, u7, u3, u8, u9, u4⟩ : MW)) ?_; intro W20 _ _))
  refine Ac rfl Tryz.underlying32 rfl (by kernel_rfl) rfl rfl rfl ?_; exact ⟨(⟨u6, u7, u3, u8, u9, u4⟩ : MW), ⟨x6, x7, x3, x8, x9, x4⟩, rfl, ⟨ii, ii, ii, ii, ii, ii⟩, ⟨h6.out, h7.out, h3.out, h8.out, h9.out, h4.out⟩, ii, ii⟩
 by_cases e1 : v5 = 1
 ·subst e1; go_wp2_with fail
  refine A3 (Fj (by decide)) ?_
  intro W6 _ g6 a6 l6 c6 aa6 ll6 cc6 _; go_wp2_with fail
  refine A3 (Fj (by decide)) ?_
  intro W7 _ g7 a7 l7 c7 aa7 ll7 cc7 _
  have z6 : CQ W7 (.agg #[.bool (⟨g6, a6, l6, c6, aa6, ll6, cc6⟩ : QW).g, .slice (⟨g6, a6, l6, c6, aa6, ll6, cc6⟩ : QW).a (⟨g6, a6, l6, c6, aa6, ll6, cc6⟩ : QW).l (⟨g6, a6, l6, c6, aa6, ll6, cc6⟩ : QW).c, .slice (⟨g6, a6, l6, c6, aa6, ll6, cc6⟩ : QW).b (⟨g6, a6, l6, c6, aa6, ll6, cc6⟩ : QW).m (⟨g6, a6, l6, c6, aa6, ll6, cc6⟩ : QW).d]) ((1 : Int) : Rat) 4 := CQ.cast (k := 2) ii rfl (by decide)
  have z7 : CQ W7 (.agg #[.bool (⟨g7, a7, l7, c7, aa7, ll7, cc7⟩ : QW).g, .slice (⟨g7, a7, l7, c7, aa7, ll7, cc7⟩ : QW).a (⟨g7, a7, l7, c7, aa7, ll7, cc7⟩ : QW).l (⟨g7, a7, l7, c7, aa7, ll7, cc7⟩ : QW).c, .slice (⟨g7, a7, l7, c7, aa7, ll7, cc7⟩ : QW).b (⟨g7, a7, l7, c7, aa7, ll7, cc7⟩ : QW).m (⟨g7, a7, l7, c7, aa7, ll7, cc7⟩ : QW).d]) ((1 : Int) : Rat) 4 := CQ.cast (k := 2) ii rfl (by decide)
  go_wp2_with (first | (refine A0 (t := 32) (x := .tmp 3) rfl rfl rfl (Bc Tryz.underlying32 rfl (by kernel_rfl)) ?_) | (refine Nf rfl 32 (.tmp 2) (.tmp 42) rfl rfl rfl (l' := [.bool false, .slice none 0 0, .slice none 0 0, .bool g6, .slice a6 l6 c6, .slice aa6 ll6 cc6, .bool u3.g, .slice u3.a u3.l u3.c, .slice u3.b u3.m u3.d, .bool g7, .slice a7 l7 c7, .slice aa7 ll7 cc7, .bool false, .slice none 0 0, .slice none 0 0, .bool u4.g, .slice u4.a u4.l u4.c, .slice u4.b u4.m u4.d]) rfl (by kernel_rfl) (by simp only [List.length_cons, List.length_nil]) (MW.one (⟨(⟨false, none, 0, 0, none, 0, 0⟩ : QW), (⟨g6, a6, l6, c6, aa6, ll6, cc6⟩ : QW), u3, (⟨g7, a7, l7, c7, aa7, ll7, cc7⟩ : QW), (⟨false, none, 0, 0, none, 0, 0⟩ : QW), u4⟩ : MW)) ?_; intro W20 _ _))
  refine Ac rfl Tryz.underlying32 rfl (by kernel_rfl) rfl rfl rfl ?_; exact ⟨(⟨(⟨false, none, 0, 0, none, 0, 0⟩ : QW), (⟨g6, a6, l6, c6, aa6, ll6, cc6⟩ : QW), u3, (⟨g7, a7, l7, c7, aa7, ll7, cc7⟩ : QW), (⟨false, none, 0, 0, none, 0, 0⟩ : QW), u4⟩ : MW), ⟨((0 : Int) : Rat), ((1 : Int) : Rat), x3, ((1 : Int) : Rat), ((0 : Int) : Rat), x4⟩, rfl, ⟨CQ.zz.cast rfl (by decide), ii, ii, ii, CQ.zz.cast rfl (by decide), ii⟩, ⟨S0.out, S1.out, h3.out, S1.out, S0.out, h4.out⟩, ii, ii⟩
 by_cases e2 : v5 = 2
 ·subst e2; go_wp2_with fail
  refine Hw Hm ?_
  intro W6 _ _ u6 x6 _ h6
  go_wp2_with (first | (refine A0 (t := 32) (x := .tmp 3) rfl rfl rfl (Bc Tryz.underlying32 rfl (by kernel_rfl)) ?_) | (refine Nf rfl 32 (.tmp 2) (.tmp 42) rfl rfl rfl (l' := [.bool g1, .slice a1 l1 c1, .slice aa1 ll1 cc1, .bool u6.g, .slice u6.a u6.l u6.c, .slice u6.b u6.m u6.d, .bool u3.g, .slice u3.a u3.l u3.c, .slice u3.b u3.m u3.d, .bool false, .slice none 0 0, .slice none 0 0, .bool g2, .slice a2 l2 c2, .slice aa2 ll2 cc2, .bool u4.g, .slice u4.a u4.l u4.c, .slice u4.b u4.m u4.d]) rfl (by kernel_rfl) (by simp only [List.length_cons, List.length_nil]) (MW.one (⟨(⟨g1, a1, l1, c1, aa1, ll1, cc1⟩ : QW), u6, u3, (⟨false, none, 0, 0, none, 0, 0⟩ : QW), (⟨g2, a2, l2, c2, aa2, ll2, cc2⟩ : QW), u4⟩ : MW)) ?_; intro W20 _ _))
  refine Ac rfl Tryz.underlying32 rfl (by kernel_rfl) rfl rfl rfl ?_; exact ⟨(⟨(⟨g1, a1, l1, c1, aa1, ll1, cc1⟩ : QW), u6, u3, (⟨false, none, 0, 0, none, 0, 0⟩ : QW), (⟨g2, a2, l2, c2, aa2, ll2, cc2⟩ : QW), u4⟩ : MW), ⟨((1 : Int) : Rat), x6, x3, ((0 : Int) : Rat), ((1 : Int) : Rat), x4⟩, rfl, ⟨ii, ii, ii, CQ.zz.cast rfl (by decide), ii, ii⟩, ⟨S1.out, h6.out, h3.out, S0.out, S1.out, h4.out⟩, ii, ii⟩
 ·have e3 : v5 = 3 := by omega
  subst e3
  go_wp2_with (first | (refine A0 (t := 32) (x := .tmp 3) rfl rfl rfl (Bc Tryz.underlying32 rfl (by kernel_rfl)) ?_) | (refine Nf rfl 32 (.tmp 2) (.tmp 42) rfl rfl rfl (l' := [.bool g1, .slice a1 l1 c1, .slice aa1 ll1 cc1, .bool false, .slice none 0 0, .slice none 0 0, .bool u3.g, .slice u3.a u3.l u3.c, .slice u3.b u3.m u3.d, .bool false, .slice none 0 0, .slice none 0 0, .bool g2, .slice a2 l2 c2, .slice aa2 ll2 cc2, .bool u4.g, .slice u4.a u4.l u4.c, .slice u4.b u4.m u4.d]) rfl (by kernel_rfl) (by simp only [List.length_cons, List.length_nil]) (MW.one (⟨(⟨g1, a1, l1, c1, aa1, ll1, cc1⟩ : QW), (⟨false, none, 0, 0, none, 0, 0⟩ : QW), u3, (⟨false, none, 0, 0, none, 0, 0⟩ : QW), (⟨g2, a2, l2, c2, aa2, ll2, cc2⟩ : QW), u4⟩ : MW)) ?_; intro W20 _ _))
  refine Ac rfl Tryz.underlying32 rfl (by kernel_rfl) rfl rfl rfl ?_; exact ⟨(⟨(⟨g1, a1, l1, c1, aa1, ll1, cc1⟩ : QW), (⟨false, none, 0, 0, none, 0, 0⟩ : QW), u3, (⟨false, none, 0, 0, none, 0, 0⟩ : QW), (⟨g2, a2, l2, c2, aa2, ll2, cc2⟩ : QW), u4⟩ : MW), ⟨((1 : Int) : Rat), ((0 : Int) : Rat), x3, ((0 : Int) : Rat), ((1 : Int) : Rat), x4⟩, rfl, ⟨ii, CQ.zz.cast rfl (by decide), ii, CQ.zz.cast rfl (by decide), ii, ii⟩, ⟨S1.out, S0.out, h3.out, S0.out, S1.out, h4.out⟩, ii, ii⟩
end
section
open Go.RowKit Cel
class As (w W : World) : Prop where
 size : w.heap.size ≤ W.heap.size
 out : ∀ j, j < w.heap.size → W.heap[j]? = w.heap[j]? ∨ ∃ a n c, w.cell? ⟨j, 0, none⟩ = some (.slice a n c)
class As1 (w : outParam World) (W : World) : Prop where out : As w W
variable {w W W2 w0 w1 : World} {base : Nat}
theorem As.tr (h : As w W) (hs : W.heap.size ≤ W2.heap.size) (k : ∀ j, j < W.heap.size → W2.heap[j]? = W.heap[j]? ∨ ∃ a n c, W.cell? ⟨j, 0, none⟩ = some (.slice a n c)) : As w W2 := ⟨Nat.le_trans h.size hs, fun j hj => by
 rcases h.out j hj with h1 | h1
 ·rcases k j (Nat.lt_of_lt_of_le hj h.size) with h2 | ⟨a, n, c, h2⟩
  ·exact .inl (h2.trans h1)
  ·exact .inr ⟨a, n, c, by rw [← Gw h1]; exact h2⟩
 ·exact .inr h1⟩
instance As.refl : As w w := ⟨Nat.le_refl _, fun _ _ => .inl rfl⟩
instance As.al {o : Obj} [h : As w W] : As w (W.alloc o) := h.tr (by rw [World.size_alloc]; omega) (fun j hj => .inl (E0 hj))
instance (priority := low) As.kp [k : Kp1 W W2] [h : As w W] : As w W2 := h.tr k.out.size (fun j hj => .inl (k.out.block j hj))
instance (priority := low) As.as1 [k : As1 W W2] [h : As w W] : As w W2 := h.tr k.out.size k.out.out
instance (priority := low) As.asl [k : Asl W W2] [h : As w W] : As w W2 := by
 obtain ⟨row, g, p⟩ := k.out
 refine h.tr g.size fun j hj => ?_
 rcases Classical.em (some j = row) with e | e
 ·exact .inr (p j e.symm)
 ·exact .inl (g.block j hj e)
theorem Sl.as' {v : Value} {n : Nat} {xs : List Value} (h : Sl W v n xs w0) (k : As W W2) (hx : Hd0 xs) : Sl W2 v n xs w0 := by
 refine ⟨?_, h.lt, fun g e => Nat.lt_of_lt_of_le (h.ltW g e) k.size⟩
 rcases h.out with h1 | ⟨g, c, rfl, hc, h1⟩
 ·exact .inl h1
 ·refine .inr ⟨g, c, rfl, hc, fun j u hu => ?_⟩
  rcases k.out g (h.ltW g rfl) with e | ⟨a, m, d, e⟩
  ·rw [Gw e]; exact h1 j u hu
  ·cases xs with
   | nil => simp at hu
   | cons x xs =>
    have h2 := h1 0 x rfl
    rw [e] at h2
    cases h2
    exact absurd (hx.out _ rfl) (by simp [noS])
instance (priority := low) Sl.as1 {v : Value} {n : Nat} {xs : List Value} [k : As1 W W2] [hx : Hd0 xs] [h : Sl W v n xs w0] : Sl W2 v n xs w0 := h.as' k.out hx
structure PW where
 a : Option Addr
 c : Nat
 V : List GW
 b : Nat
def PW.l (y : PW) : List Value := [.slice y.a y.V.length y.c, .pointer (some ⟨y.b, 0, none⟩)]
def Dz (U : List PW) : List Value := U.flatMap PW.l
theorem Qlr (U : List PW) (e : PW) : Dz (U ++ [e]) = Dz U ++ e.l := Fp _ _ _
theorem PW.len (e : PW) : e.l.length = 2 := rfl
theorem PW.nd (e : PW) : ∀ u ∈ e.l, Am u = false := by intro u hu; simp only [PW.l, List.mem_cons, List.not_mem_nil, or_false] at hu; rcases hu with rfl | rfl <;> rfl
theorem PW.one (e : PW) : ∀ u ∈ e.l, u.oneCell' = true := by intro u hu; simp only [PW.l, List.mem_cons, List.not_mem_nil, or_false] at hu; rcases hu with rfl | rfl <;> rfl
theorem Qem (U : List PW) : ∀ u ∈ Dz U, Am u = false := Fz PW.nd U
def pw (U : List PW) (i : Nat) : PW := U.getD i ⟨none, 0, [], 0⟩
theorem Lb {U : List PW} {i : Nat} (h : i < U.length) : pw U i = U[i] := C7 h
def pq (P : List (List FQ × Bool)) (i : Nat) : List FQ × Bool := P.getD i ([], false)
theorem Mm {P : List (List FQ × Bool)} {i : Nat} (h : i < P.length) : pq P i = P[i] := C7 h
theorem Z1 {g k : Nat} {U : List PW} [h : At W g (Dz U) w0] (hk : k < U.length) : (loadVar 281 ⟨g, k * 2, none⟩).run Tryz.prog W = .ok (.agg #[.slice (pw U k).a (pw U k).V.length (pw U k).c, .pointer (some ⟨(pw U k).b, 0, none⟩)]) W :=
 Ms W g (k * 2) 281 (pw U k).l _ Tryz.underlying281 rfl (by kernel_rfl) (fun j hj => by
  rw [Lb hk]
  exact h.out _ _ (by rw [Dz, F9 PW.len U k j hk hj]; exact List.getElem?_eq_getElem (l := U[k].l) hj))
class Pts (W : World) (U : List PW) (P : outParam (List (List FQ × Bool))) (w0 : outParam World) : Prop where
 len : U.length = P.length
 s : ∀ i, i < U.length → Sl W (.slice (pw U i).a (pw U i).V.length (pw U i).c) (pw U i).V.length (rowW (pw U i).V) w0
 p : ∀ i, i < U.length → Cw W (pw U i).V (pq P i).1
 t : ∀ i, i < U.length → Tk W (pw U i).b (.leaf (pq P i).2)
instance Pts.al {U : List PW} {P : List (List FQ × Bool)} {o : Obj}  [h : Pts W U P w0] : Pts (W.alloc o) U P w0 := ⟨h.len, fun i hi => by have := h.s i hi; exact ii, fun i hi => by have := h.p i hi; exact ii, fun i hi => by have := h.t i hi; exact ii⟩
instance (priority := low) Pts.kp {U : List PW} {P : List (List FQ × Bool)}  [kb : Kp1 W W2] [h : Pts W U P w0] : Pts W2 U P w0 := ⟨h.len, fun i hi => by have := h.s i hi; exact ii, fun i hi => by have := h.p i hi; exact ii, fun i hi => by have := h.t i hi; exact ii⟩
instance (priority := low) Pts.asl {U : List PW} {P : List (List FQ × Bool)}  [k1 : Asl W W2] [k2 : Apn W W2] [h : Pts W U P w0] : Pts W2 U P w0 := ⟨h.len, fun i hi => by have := h.s i hi; exact ii, fun i hi => by have := h.p i hi; exact ii, fun i hi => by have := h.t i hi; exact ii⟩
instance Pts.at1 {U : List PW} {P : List (List FQ × Bool)} {i : Nat} [h : Pts W U P w0] [l : LtN i U.length] : Sl W (.slice (pw U i).a (pw U i).V.length (pw U i).c) (pw U i).V.length (rowW (pw U i).V) w0 := h.s i l.out
instance Pts.at2 {U : List PW} {P : List (List FQ × Bool)} {i : Nat} [h : Pts W U P w0] [l : LtN i U.length] : Cw W (pw U i).V (pq P i).1 := h.p i l.out
instance Pts.at3 {U : List PW} {P : List (List FQ × Bool)} {i : Nat} [h : Pts W U P w0] [l : LtN i U.length] : Tk W (pw U i).b (.leaf (pq P i).2) := h.t i l.out
theorem Pts.here {U : List PW} {P : List (List FQ × Bool)} (h : Pts W U P w0) : Pts W U P W := ⟨h.len, fun i hi => (h.s i hi).here, h.p, h.t⟩
theorem Pts.nil : Pts W [] [] W := ⟨rfl, fun i hi => by simp at hi, fun i hi => by simp at hi, fun i hi => by simp at hi⟩
theorem Pts.snoc {U : List PW} {P : List (List FQ × Bool)} {a : Option Addr} {c b : Nat} {V : List GW} {C : List FQ} {i : Bool} (h : Pts W U P w0) (hs : Sl W (.slice a V.length c) V.length (rowW V) w1) (hp : Cw W V C) (ht : Tk W b (.leaf i)) : Pts W (U ++ [⟨a, c, V, b⟩]) (P ++ [(C, i)]) W := by
 refine ⟨by simp [h.len], fun j hj => ?_, fun j hj => ?_, fun j hj => ?_⟩
 all_goals
  rcases Nat.lt_or_ge j U.length with hlt | hge
  ·have e1 : pw (U ++ [⟨a, c, V, b⟩]) j = pw U j := by rw [Lb hj, Lb hlt, List.getElem_append_left hlt]
   have e2 : pq (P ++ [(C, i)]) j = pq P j := by rw [Mm (by rw [List.length_append, ← h.len]; omega), Mm (by rw [← h.len]; exact hlt), List.getElem_append_left (by rw [← h.len]; exact hlt)]
   rw [e1]
   first | exact (h.s j hlt).here | (rw [e2]; exact h.p j hlt) | (rw [e2]; exact h.t j hlt)
  ·have hj' : j = U.length := by simp at hj; omega
   subst hj'
   have e1 : pw (U ++ [⟨a, c, V, b⟩]) U.length = ⟨a, c, V, b⟩ := by rw [Lb hj]; simp
   have e2 : pq (P ++ [(C, i)]) U.length = (C, i) := by rw [h.len, Mm (by simp)]; simp
   rw [e1]
   first | exact hs.here | (rw [e2]; exact hp) | (rw [e2]; exact ht)
def pts : Tr → List FQ → List (List FQ × Bool)
 | .leaf i, C => [(C, i)]
 | .node l x y, C => (if (clip C l).2 then pts x (clip C l).1 else []) ++ (if (clip C (rev l)).2 then pts y (clip C (rev l)).1 else [])
theorem Th (t : Tr) : ∀ C, (pts t C).length ≤ t.size + 1 := by
 induction t with
 | leaf i => exact fun _ => Nat.le_refl _
 | node l x y ihx ihy =>
  intro C
  have h1 := ihx (clip C l).1
  have h2 := ihy (clip C (rev l)).1
  simp only [pts, Tr.size, List.length_append]
  split <;> split <;> (try simp only [List.length_nil]) <;> omega
def O1 (w : World) (base : Nat) (P : List (List FQ × Bool)) (e : Ending) (w' : World) : Prop := ∃ (a : Option Addr) (c : Nat) (U : List PW), e = .returned (.slice a U.length c) ∧ Rn w' (.slice a U.length c) 281 2 U.length (Dz U) base w' ∧ Pts w' U P w' ∧ (U.length = 0 → Value.slice a U.length c = .slice none 0 0) ∧ Wr w w' base base ∧ As w w'
theorem J0 {P' : Program} {f : FuncId} {args : Array Value} {w : World} {base : Nat} {P : List (List FQ × Bool)} {K : Ending → World → Prop} (h : Calls P' f args w (O1 w base P))
  (hK : ∀ w' [Wr1 w w' base base] [As1 w w'] (a : Option Addr) (c : Nat) (U : List PW) [Rn w' (.slice a U.length c) 281 2 U.length (Dz U) base w'] [Pts w' U P w'], Hid (U.length = 0 → Value.slice a U.length c = .slice none 0 0) → K (.returned (.slice a U.length c)) w') : Calls P' f args w K := by
 refine h.mono ?_
 rintro e w' ⟨a, c, U, rfl, h1, h2, h3, h4, h5⟩
 exact @hK w' ⟨h4⟩ ⟨h5⟩ a c U h1 h2 h3
theorem Qaz : (Tryz.prog.info? 281).map (fun i => (i.zero, i.size, i.bytes)) = some (some (.agg #[.slice none 0 0, .pointer none]), 2, 32) := by kernel_rfl
instance boxT_part : BoxT 281 := by constructor <;> decide
theorem Qk0 {v : Value} {e : TypeId} {U : List PW} (h : Rn W v e 2 U.length (Dz U) base w0) (h0 : U.length = 0 → v = .slice none 0 0) : ∀ k, v.ownBlock = some k → ∃ a n c, W.cell? ⟨k, 0, none⟩ = some (.slice a n c) := by
 intro k hk
 cases U with
 | nil => rw [h0 rfl] at hk; cases hk
 | cons u U =>
  obtain ⟨a', c', rfl⟩ := h.slice
  cases a' with
  | none => cases hk
  | some g =>
   rcases h.rw'.out.2 with ⟨e1, _⟩ | ⟨g', _, _, e1, _⟩
   ·cases e1
   ·cases e1
    cases hk
    exact ⟨_, _, _, (Rn.at h).out 0 _ rfl⟩
theorem Qcd {t : Tr} : ∀ {w w0 w1 w2 : World} {a a' : Option Addr} {n c c' : Nat} {V : List GW} {C : List FQ} {U : List PW} {P : List (List FQ × Bool)} [hs : Sl w (.slice a n c) V.length (rowW V) w0] [hp : Cw w V C] {b : Nat} [ht : Tk w b t] [hr : Rn w (.slice a' U.length c') 281 2 U.length (Dz U) base w1] [hP : Pts w U P w2],
  (U.length = 0 → Value.slice a' U.length c' = .slice none 0 0) → V.length + t.depth ≤ 700000 → U.length + t.size ≤ 65536 → Calls Tryz.prog 227 #[.pointer (some ⟨b, 0, none⟩), .slice a n c, .slice a' U.length c'] w (O1 w base (P ++ pts t C)) := by
 induction t with
 | leaf i =>
  intro w w0 w1 w2 a a' n c c' V C U P hs hp b ht hr hP h0 hV hU; obtain rfl := hs.len
  have h0' := Lib.hid h0
  clear h0; simp only [Tr.size] at hU; go_enter Tryz.func227, Tryz.ntmps227
  go_wp2_with (first
   | (go_at_call 89; (with_reducible refine Aa (Dq) ?_); intros)
   | (at_builtin; go_loud (refine Hp (v := .slice a' U.length c') rfl (.tmp 13) (.tmp 17) 278 rfl Tryz.underlying278 Qaz rfl (by decide) (by decide) (by decide) ii rfl (Qem _) (Qk0 ii h0'.out) rfl (by rfl) ?h1 ?h2 (by omega) ?_); (case h1 => exact PW.one ⟨_, _, _, _⟩); (case h2 => exact PW.nd ⟨_, _, _, _⟩); intro g8 c8 W8 k8 k8n k8s i8))
  go_ret
  have h9 : Rn W8 (.slice (some ⟨g8, 0, none⟩) (U.length + 1) c8) 281 2 (U ++ [(⟨a, c, V, b⟩ : PW)]).length (Dz (U ++ [⟨a, c, V, b⟩])) base W8 := Rn.cast2 i8 (by simp) (by rw [Qlr]; rfl)
  have e9 : U.length + 1 = (U ++ [(⟨a, c, V, b⟩ : PW)]).length := by simp
  rw [e9] at h9 ⊢
  exact ⟨_, _, U ++ [⟨a, c, V, b⟩], rfl, h9, Pts.snoc ii ii ii ii, fun e => by simp at e, ii, ii⟩
 | node l x y ihx ihy =>
  intro w w0 w1 w2 a a' n c c' V C U P hs hp b ht hr hP h0 hV hU; obtain rfl := hs.len; obtain ⟨v, b1, b2, hb, h1, h2, h3⟩ := ht.node; simp only [Tr.depth] at hV; simp only [Tr.size] at hU; have hlen := Lib.hid hp.len; obtain ⟨o, ho⟩ : ∃ o, (clip C l).2 = o := ⟨_, rfl⟩; obtain ⟨p, hq⟩ : ∃ o, (clip C (rev l)).2 = o := ⟨_, rfl⟩; have HO := Lib.hid ho; have HQ := Lib.hid hq
  have h0' := Lib.hid h0
  clear h0; obtain ⟨R, hR⟩ : ∃ z, P ++ pts (.node l x y) C = z := ⟨_, rfl⟩; rw [hR]; unfold pts at hR; rw [ho, hq] at hR; clear ho hq
  have l1 := Gk C l
  have l2 := Gk C (rev l)
  have x1 := Th x (clip C l).1
  have hPl := Lib.hid hP.len
  cases o
  ·cases p
   ·obtain rfl : R = P := by rw [← hR]; simp
    go_enter Tryz.func227, Tryz.ntmps227
    go_wp2_with (first
     | (go_at_call 89; (with_reducible refine Aa (Da) ?_); intros)
     | (go_at_call 126; go_loud (with_reducible refine Ew (Es (by omega) HO HQ) ?_); intro w8 _ a8 c8 V8 a8' c8' V8' s8 p8 s8' p8'; have q8 := Lib.hid p8.len; have q8' := Lib.hid p8'.len))
    go_ret; exact ⟨a', c', U, rfl, (ii : Rn w8 (.slice a' U.length c') 281 2 U.length (Dz U) base w1).here, Pts.here ii, h0'.out, ii, ii⟩
   ·obtain rfl : R = P ++ pts y (clip C (rev l)).1 := by rw [← hR]; simp
    go_enter Tryz.func227, Tryz.ntmps227
    go_wp2_with (first
     | (go_at_call 89; (with_reducible refine Aa (Da) ?_); intros)
     | (go_at_call 126; go_loud (with_reducible refine Ew (Es (by omega) HO HQ) ?_); intro w8 _ a8 c8 V8 a8' c8' V8' s8 p8 s8' p8'; have q8 := Lib.hid p8.len; have q8' := Lib.hid p8'.len)
     | (go_at_call 227; go_loud (with_reducible refine J0 (ihy (V := V8') (U := U) (P := P) h0'.out (by have := q8'.out; have := hlen.out; omega) (by omega)) ?_); intro w10 _ _ a10 c10 U10 r10 p10 z10))
    go_ret; exact ⟨a10, c10, U10, rfl, ii, Pts.here ii, z10.out, ii, ii⟩
  ·cases p
   ·obtain rfl : R = P ++ pts x (clip C l).1 := by rw [← hR]; simp
    go_enter Tryz.func227, Tryz.ntmps227
    go_wp2_with (first
     | (go_at_call 89; (with_reducible refine Aa (Da) ?_); intros)
     | (go_at_call 126; go_loud (with_reducible refine Ew (Es (by omega) HO HQ) ?_); intro w8 _ a8 c8 V8 a8' c8' V8' s8 p8 s8' p8'; have q8 := Lib.hid p8.len; have q8' := Lib.hid p8'.len)
     | (go_at_call 227; go_loud (with_reducible refine J0 (ihx (V := V8) (U := U) (P := P) h0'.out (by have := q8.out; have := hlen.out; omega) (by omega)) ?_); intro w9 _ _ a9 c9 U9 r9 p9 z9; have m9 := Lib.hid p9.len))
    go_ret; exact ⟨a9, c9, U9, rfl, ii, Pts.here ii, z9.out, ii, ii⟩
   ·obtain rfl : R = P ++ pts x (clip C l).1 ++ pts y (clip C (rev l)).1 := by rw [← hR]; simp
    go_enter Tryz.func227, Tryz.ntmps227
    go_upto_region 6 with (first
     | (go_at_call 89; (with_reducible refine Aa (Da) ?_); intros)
     | (go_at_call 126; go_loud (with_reducible refine Ew (Es (by omega) HO HQ) ?_); intro w8 _ a8 c8 V8 a8' c8' V8' s8 p8 s8' p8'; have q8 := Lib.hid p8.len; have q8' := Lib.hid p8'.len)
     | (go_at_call 227; go_loud (with_reducible refine J0 (ihx (V := V8) (U := U) (P := P) h0'.out (by have := q8.out; have := hlen.out; omega) (by omega)) ?_); intro w9 _ _ a9 c9 U9 r9 p9 z9; have m9 := Lib.hid p9.len))
    go_wp2_with (first
     | (go_at_call 227; go_loud (with_reducible refine J0 (ihy (V := V8') (U := U9) (P := P ++ pts x (clip C l).1) z9.out (by have := q8'.out; have := hlen.out; omega) (by have := m9.out; rw [List.length_append] at this; have := hPl.out; omega)) ?_); intro w10 _ _ a10 c10 U10 r10 p10 z10))
    go_ret; exact ⟨a10, c10, U10, rfl, ii, Pts.here ii, z10.out, ii, ii⟩
end
section
open Go.RowKit Cel
variable {w W W2 w0 w1 : World} {base : Nat}
def PtR (w : World) (P : List (List FQ × Bool)) (e : Ending) (w' : World) : Prop := ∃ (a : Option Addr) (c : Nat) (U : List PW), e = .returned (.slice a U.length c) ∧ Sl w' (.slice a U.length c) U.length (Dz U) w' ∧ Pts w' U P w' ∧ Below w.heap.size w w'
theorem Qi6 {P' : Program} {f : FuncId} {args : Array Value} {w : World} {P : List (List FQ × Bool)} {K : Ending → World → Prop} (h : Calls P' f args w (PtR w P))
  (hK : ∀ w' [Kp1 w w'] (a : Option Addr) (c : Nat) (U : List PW) [Sl w' (.slice a U.length c) U.length (Dz U) w'] [Pts w' U P w'], K (.returned (.slice a U.length c)) w') : Calls P' f args w K := by
 refine h.mono ?_
 rintro e w' ⟨a, c, U, rfl, h1, h2, h3⟩
 exact @hK w' ⟨h3⟩ a c U h1 h2
theorem Qlw {t : Tr} {b : Nat} [ht : Tk w b t] (hV : t.depth ≤ 700000) (hU : t.size ≤ 65536) : Calls Tryz.prog 227 #[.pointer (some ⟨b, 0, none⟩), .slice none 0 0, .slice none 0 0] w (O1 w w.heap.size (pts t [])) := by
 have hs : Sl w (.slice none 0 0) ([] : List GW).length (rowW []) w := Cl
 have hp : Cw w [] [] := Cw.nil
 have hr : Rn w (.slice none 0 0) 281 2 ([] : List PW).length (Dz []) w.heap.size w := Rn.nil (Nat.le_refl _)
 have hP : Pts w [] [] w := Pts.nil
 have h := Qcd (base := w.heap.size) (t := t) (w := w) (b := b) (a := none) (n := 0) (c := 0) (V := []) (C := []) (U := []) (P := []) (a' := none) (c' := 0) (fun _ => rfl) (by simpa using hV) (by simpa using hU)
 simpa using h
theorem Qli {t : Tr} {b : Nat} [ht : Tk w b t] (hV : t.depth ≤ 700000) (hU : t.size ≤ 65536) : Calls Tryz.prog 198 #[.pointer (some ⟨b, 0, none⟩)] w (PtR w (pts t [])) := by
 go_enter Tryz.func198, Tryz.ntmps198
 go_wp2_with (first
  | (go_at_call 227; refine J0 (Qlw hV hU) ?_; intro w5 _ _ a5 c5 U5 r5 p5 _))
 go_ret; exact ⟨a5, c5, U5, rfl, r5.rw'.sl.here, p5, (ii : Kp w w5).out⟩
structure ZW where
 a : Option Addr
 c : Nat
 V : List GW
def ZW.l (y : ZW) : List Value := [.slice y.a y.V.length y.c]
def Co (U : List ZW) : List Value := U.flatMap ZW.l
theorem Qmr (U : List ZW) (e : ZW) : Co (U ++ [e]) = Co U ++ e.l := Fp _ _ _
theorem ZW.nd (e : ZW) : ∀ u ∈ e.l, Am u = false := by intro u hu; simp only [ZW.l, List.mem_singleton] at hu; subst hu; rfl
theorem ZW.one (e : ZW) : ∀ u ∈ e.l, u.oneCell' = true := by intro u hu; simp only [ZW.l, List.mem_singleton] at hu; subst hu; rfl
theorem Sj (U : List ZW) : ∀ u ∈ Co U, Am u = false := Fz ZW.nd U
theorem Uf (U : List ZW) : ∀ u ∈ Co U, ∃ a n c, u = .slice a n c := by
 intro u hu; obtain ⟨e, _, h⟩ := List.mem_flatMap.1 hu; simp only [ZW.l, List.mem_singleton] at h; exact ⟨_, _, _, h⟩
def zw (U : List ZW) (i : Nat) : ZW := U.getD i ⟨none, 0, []⟩
theorem L3 {U : List ZW} {i : Nat} (h : i < U.length) : zw U i = U[i] := C7 h
@[go_sem] theorem Qm7 {g k : Nat} {U : List ZW} [h : At W g (Co U) w0] (hk : k < U.length) : W.cell? ⟨g, k, none⟩ = some (.slice (zw U k).a (zw U k).V.length (zw U k).c) := by
 rw [L3 hk]
 exact h.out _ _ (by
  have e := F9 (f := ZW.l) (sz := 1) (fun _ => rfl) U k 0 hk (by decide)
  rw [Nat.mul_one, Nat.add_zero] at e
  rw [Co, e]; rfl)
def cq (L : List (List FQ)) (i : Nat) : List FQ := L.getD i []
theorem M6 {L : List (List FQ)} {i : Nat} (h : i < L.length) : cq L i = L[i] := C7 h
class Cs (W : World) (U : List ZW) (L : outParam (List (List FQ))) (w0 : outParam World) : Prop where
 len : U.length = L.length
 s : ∀ i, i < U.length → Sl W (.slice (zw U i).a (zw U i).V.length (zw U i).c) (zw U i).V.length (rowW (zw U i).V) w0
 p : ∀ i, i < U.length → Cw W (zw U i).V (cq L i)
instance Cs.al {U : List ZW} {L : List (List FQ)} {o : Obj}  [h : Cs W U L w0] : Cs (W.alloc o) U L w0 := ⟨h.len, fun i hi => by have := h.s i hi; exact ii, fun i hi => by have := h.p i hi; exact ii⟩
instance (priority := low) Cs.kp {U : List ZW} {L : List (List FQ)}  [kb : Kp1 W W2] [h : Cs W U L w0] : Cs W2 U L w0 := ⟨h.len, fun i hi => by have := h.s i hi; exact ii, fun i hi => by have := h.p i hi; exact ii⟩
instance (priority := low) Cs.asl {U : List ZW} {L : List (List FQ)}  [k1 : Asl W W2] [k2 : Apn W W2] [h : Cs W U L w0] : Cs W2 U L w0 := ⟨h.len, fun i hi => by have := h.s i hi; exact ii, fun i hi => by have := h.p i hi; exact ii⟩
instance Cs.at1 {U : List ZW} {L : List (List FQ)} {i : Nat} [h : Cs W U L w0] [l : LtN i U.length] : Sl W (.slice (zw U i).a (zw U i).V.length (zw U i).c) (zw U i).V.length (rowW (zw U i).V) w0 := h.s i l.out
instance Cs.at2 {U : List ZW} {L : List (List FQ)} {i : Nat} [h : Cs W U L w0] [l : LtN i U.length] : Cw W (zw U i).V (cq L i) := h.p i l.out
theorem Cs.here {U : List ZW} {L : List (List FQ)} (h : Cs W U L w0) : Cs W U L W := ⟨h.len, fun i hi => (h.s i hi).here, h.p⟩
theorem Cs.nil : Cs W [] [] W := ⟨rfl, fun i hi => by simp at hi, fun i hi => by simp at hi⟩
theorem Cs.snoc {U : List ZW} {L : List (List FQ)} {a : Option Addr} {c : Nat} {V : List GW} {C : List FQ} (h : Cs W U L w0) (hs : Sl W (.slice a V.length c) V.length (rowW V) w1) (hp : Cw W V C) : Cs W (U ++ [⟨a, c, V⟩]) (L ++ [C]) W := by
 refine ⟨by simp [h.len], fun j hj => ?_, fun j hj => ?_⟩
 all_goals
  rcases Nat.lt_or_ge j U.length with hlt | hge
  ·have e1 : zw (U ++ [⟨a, c, V⟩]) j = zw U j := by rw [L3 hj, L3 hlt, List.getElem_append_left hlt]
   have e2 : cq (L ++ [C]) j = cq L j := by rw [M6 (by rw [List.length_append, ← h.len]; omega), M6 (by rw [← h.len]; exact hlt), List.getElem_append_left (by rw [← h.len]; exact hlt)]
   rw [e1]
   first | exact (h.s j hlt).here | (rw [e2]; exact h.p j hlt)
  ·have hj' : j = U.length := by simp at hj; omega
   subst hj'
   have e1 : zw (U ++ [⟨a, c, V⟩]) U.length = ⟨a, c, V⟩ := by rw [L3 hj]; simp
   have e2 : cq (L ++ [C]) U.length = C := by rw [h.len, M6 (by simp)]; simp
   rw [e1]
   first | exact hs.here | (rw [e2]; exact hp)
def ins (P : List (List FQ × Bool)) : List (List FQ) := (P.filter (·.2)).map (·.1)
theorem Qkv {P : List (List FQ × Bool)} {q : Nat} (h : q < P.length) : ins (P.take (q + 1)) = ins (P.take q) ++ (if (pq P q).2 then [(pq P q).1] else []) := by
 rw [Mm h, List.take_succ_eq_append_getElem h]; unfold ins; rw [List.filter_append, List.map_append]
 congr 1
 cases hb : (P[q]).2 <;> simp [hb]
theorem Qeu (P : List (List FQ × Bool)) : (ins P).length ≤ P.length := by unfold ins; rw [List.length_map]; exact List.length_filter_le ..
def CsR (w : World) (L : List (List FQ)) (e : Ending) (w' : World) : Prop := ∃ (a : Option Addr) (c : Nat) (U : List ZW), e = .returned (.slice a U.length c) ∧ Sl w' (.slice a U.length c) U.length (Co U) w' ∧ Cs w' U L w' ∧ Below w.heap.size w w'
theorem Qkf {P' : Program} {f : FuncId} {args : Array Value} {w : World} {L : List (List FQ)} {K : Ending → World → Prop} (h : Calls P' f args w (CsR w L))
  (hK : ∀ w' [Kp1 w w'] (a : Option Addr) (c : Nat) (U : List ZW) [Sl w' (.slice a U.length c) U.length (Co U) w'] [Cs w' U L w'], K (.returned (.slice a U.length c)) w') : Calls P' f args w K := by
 refine h.mono ?_
 rintro e w' ⟨a, c, U, rfl, h1, h2, h3⟩
 exact @hK w' ⟨h3⟩ a c U h1 h2
theorem Vb : (Tryz.prog.info? 221).map (fun i => (i.zero, i.size, i.bytes)) = some (some (.slice none 0 0), 1, 24) := by kernel_rfl
instance boxT_cell : BoxT 221 := by constructor <;> decide
theorem Qg4 {t : Tr} {b : Nat} {C : List (List FQ)} [ht : Tk w b t] (hV : t.depth ≤ 700000) (hU : t.size ≤ 65536) (hC : Hid (ins (pts t []) = C)) : Calls Tryz.prog 151 #[.pointer (some ⟨b, 0, none⟩)] w (CsR w C) := by
 have hPl := Th t []
 generalize hP : pts t [] = P at *
 have HP := Lib.hid hP; clear hP; go_enter Tryz.func151, Tryz.ntmps151
 go_wp2_with (first
  | (go_at_call 198; refine Qi6 (Qli hV hU) ?_; intro w5 _ a5 c5 U5 s5 p5; rw [HP.out] at p5))
 have hlen := Lib.hid p5.len
 go_loopw [9, 3] (fun i o wr => ∃ (q : Nat) (X : List ZW), i = .int .i64 (q : Int) ∧ q ≤ U5.length ∧ Rn wr o 221 1 X.length (Co X) w5.heap.size wr ∧ Cs wr X (ins (P.take q)) wr ∧ (X.length = 0 → o = .slice none 0 0) ∧ Kp w5 wr) (fun i _ _ => U5.length - (intOf i).toNat)
 case atStart => exact ⟨0, [], rfl, by omega, Rn.nil (by simp), Cs.nil, fun _ => rfl, ii⟩
 case round =>
  obtain ⟨q, X, rfl, hq, i1, i2, i0, i3⟩ := hrel; have kw := Kp1.mk i3.out
  have hX' := Lib.hid i0
  clear i0
  have hXl : X.length ≤ 65537 := by rw [i2.len]; have := Qeu (P.take q); rw [List.length_take] at this; omega
  obtain ⟨av, cv, rfl⟩ := i1.slice
  by_cases hlt : q < U5.length
  ·have hlt' : (q : Int) < U5.length := by omega
   have lq : LtN q U5.length := ⟨hlt⟩
   have ew : IntKind.i64.wrap ((q : Int) + 1) = (q : Int) + 1 := Ap (by have := hlen.out; omega) (by have := hlen.out; omega)
   have hqP : q < P.length := by have := hlen.out; omega
   obtain ⟨g, rfl, hA⟩ := s5.form (by omega); obtain ⟨r, hr⟩ : ∃ r, (pq P q).2 = r := ⟨_, rfl⟩
   have ht9 : Tk wr (pw U5 q).b (.leaf r) := by rw [← hr]; exact ii
   obtain ⟨vl, hb9⟩ := ht9.leaf
   have es := Qkv hqP
   rw [hr] at es
   have es' := Lib.hid es
   clear es hr
   cases r
   ·go_wp2_with (first
     | refine A0 (t := 281) (x := .tmp 11) rfl rfl rfl (Z1 hlt) ?_
     | (at_builtin; go_loud (refine Hp (v := .slice av X.length cv) rfl (.tmp 18) (.tmp 21) 141 rfl Tryz.underlying141 Vb rfl (by decide) (by decide) (by decide) ii rfl (Sj _) (Jk ii (Uf X) hX'.out) rfl (by rfl) ?h1 ?h2 (by omega) ?_); (case h1 => exact ZW.one ⟨_, _, _⟩); (case h2 => exact ZW.nd ⟨_, _, _⟩); intro g8 c8 W8 k8 k8n k8s i8))
    go_roundw
    case rel => exact ⟨q + 1, X, by go_num, by omega, (ii : Rn _ (.slice av X.length cv) 221 1 X.length (Co X) w5.heap.size wr).here, by rw [es'.out]; simpa using (ii : Cs _ X (ins (P.take q)) wr).here, hX'.out, ii⟩
    case measure => simp [intOf]; omega
   ·go_wp2_with (first
     | refine A0 (t := 281) (x := .tmp 11) rfl rfl rfl (Z1 hlt) ?_
     | (at_builtin; go_loud (refine Hp (v := .slice av X.length cv) rfl (.tmp 18) (.tmp 21) 141 rfl Tryz.underlying141 Vb rfl (by decide) (by decide) (by decide) ii rfl (Sj _) (Jk ii (Uf X) hX'.out) rfl (by rfl) ?h1 ?h2 (by omega) ?_); (case h1 => exact ZW.one ⟨_, _, _⟩); (case h2 => exact ZW.nd ⟨_, _, _⟩); intro g8 c8 W8 k8 k8n k8s i8))
    go_roundw
    case rel => exact ⟨q + 1, X ++ [⟨(pw U5 q).a, (pw U5 q).c, (pw U5 q).V⟩], by go_num, by omega, Rn.cast2 ii (by simp) (by rw [Qmr]; rfl), by rw [es'.out]; exact Cs.snoc ii ii ii, fun e => by simp at e, ii⟩
    case measure => simp [intOf]; omega
  ·obtain rfl : q = U5.length := by omega
   rw [List.take_of_length_le (by have := hlen.out; omega), hC.out] at i2; go_wp2_with fail; go_ret; exact ⟨av, cv, X, rfl, i1.rw'.sl.here, i2.here, (ii : Kp w _).out⟩
end
end Go.Proofs.YtpnpnlmlamfpmaaGreatDoor
