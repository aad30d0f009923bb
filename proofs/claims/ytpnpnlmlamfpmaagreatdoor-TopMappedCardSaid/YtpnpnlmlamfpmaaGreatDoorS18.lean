import Derived.Test.YtpnpnlmlamfpmaaGreatDoorS16
import Derived.LaidMore
import Derived.Stop.Joined
import Derived.Stop.LaidTwo
import Derived.Test.YtpnpnlmlamfpmaaGreatDoorRows
namespace Go.Proofs.YtpnpnlmlamfpmaaGreatDoor
open Go.RowKit
set_option maxRecDepth 100000
section
instance : BoxT 151 := by constructor <;> decide
instance {t : TypeId} {v : Value} : Ndg (.iface t v) := ⟨rfl⟩
instance : Ndg .nilIface := ⟨rfl⟩
instance {s : ByteArray} : Ndg (.string s) := ⟨rfl⟩
class Snt (W : World) (g : Nat) (a : outParam Addr) (w0 : outParam World) : Prop where
 cell : W.cell? ⟨g, 0, none⟩ = some (.iface 329 (.pointer (some a)))
 row : ∃ c t, W.heap[a.block]? = some (.cells c t (0, 0))
 lt : g < w0.heap.size ∧ a.block < w0.heap.size
 ltW : g < W.heap.size ∧ a.block < W.heap.size
variable {W W2 w0 : World} {a : Addr} {g : Nat}
theorem Snt.mk1 (h1 : W.cell? ⟨g, 0, none⟩ = some (.iface 329 (.pointer (some a)))) (h2 : ∃ c t, W.heap[a.block]? = some (.cells c t (0, 0))) : Snt W g a W := by
 obtain ⟨c, t, h⟩ := h2; exact ⟨h1, ⟨c, t, h⟩, ⟨El h1, Ep h⟩, ⟨El h1, Ep h⟩⟩
theorem Snt.keep (h : Snt W g a w0) (hs : W.heap.size ≤ W2.heap.size) (hg : W2.heap[g]? = W.heap[g]?) (ha : W2.heap[a.block]? = W.heap[a.block]?) : Snt W2 g a w0 := by
 refine ⟨?_, ?_, h.lt, ⟨Nat.lt_of_lt_of_le h.ltW.1 hs, Nat.lt_of_lt_of_le h.ltW.2 hs⟩⟩
 ·have := h.cell
  unfold World.cell? at this ⊢
  simp only [hg]; exact this
 ·rw [ha]; exact h.row
instance Snt.al {o : Obj} [h : Snt W g a w0] : Snt (W.alloc o) g a w0 := h.keep (by rw [World.size_alloc]; omega) (E0 h.ltW.1) (E0 h.ltW.2)
instance Snt.dr [h : Snt W g a w0] : Snt W.drew g a w0 := h.keep (Nat.le_refl _) rfl rfl
instance (priority := low) Snt.kp [k : Kp1 W W2] [h : Snt W g a w0] : Snt W2 g a w0 := h.keep k.out.size (k.out.block _ h.ltW.1) (k.out.block _ h.ltW.2)
instance (priority := low) Snt.tp {g' : Nat} [k : Tp1 W W2 g'] [h : Snt W g a w0] [n : Ge w0 g'] : Snt W2 g a w0 := h.keep k.gb.size
 (k.gb.block _ h.ltW.1 (fun e => by injection e with e; have := n.out; have := h.lt.1; omega)) (k.gb.block _ h.ltW.2 (fun e => by injection e with e; have := n.out; have := h.lt.2; omega))
class GeL (w0 : World) (L : List Nat) : Prop where out : ∀ q ∈ L, w0.heap.size ≤ q
instance GeL.nil : GeL w0 [] := ⟨fun _ h => nomatch h⟩
instance GeL.cons {w0 : World} {q : Nat} {L : List Nat} [h1 : Ge w0 q] [h2 : GeL w0 L] : GeL w0 (q :: L) := ⟨fun x h => by
 rcases List.mem_cons.1 h with rfl | h
 ·exact h1.out
 ·exact h2.out _ h⟩
instance (priority := low) Snt.ex {W0 : World} {L : List Nat} [e : Ex1 W0 L W] [h : Snt W0 g a w0] [n : GeL w0 L] : Snt W g a w0 := h.keep e.out.size
 (e.out.block _ h.ltW.1 (fun hm => by have := n.out _ hm; have := h.lt.1; omega)) (e.out.block _ h.ltW.2 (fun hm => by have := n.out _ hm; have := h.lt.2; omega))
@[go_sem] theorem Qnk [h : Snt W g a w0] : W.cell? ⟨g, 0, none⟩ = some (.iface 329 (.pointer (some a))) := h.cell
end
section
set_option maxHeartbeats 40000000
set_option synthInstance.maxHeartbeats 1000000
set_option synthInstance.maxSize 100000
theorem Ke (x : Rat) : rsgn x = isgn x.num := by
 unfold rsgn isgn
 repeat' split
 all_goals omega
variable {d1 d2 n1 n2 z : Int}
theorem Vp : isgn z = 0 ↔ z = 0 := by
 unfold isgn
 repeat' split
 all_goals omega
variable {x y : Rat}
theorem Ql0 (h : x.den = y.den) : isgn (x - y).num = if x.num < y.num then -1 else if x.num = y.num then 0 else 1 := by
 rw [← Ke]; exact Qio h
theorem Qjw (h : x ≠ 0) : mkRat (sgn (decide (x.num < 0)) x.den) x.num.natAbs = x⁻¹ := by
 rw [Qb6 x h]
 by_cases hn : x.num < 0 <;> simp [hn, sgn]
variable {w : World}
theorem Gn {P : Program} {f : FuncId} {args : Array Value} {x : Int} {k : Nat} {K : Ending → World → Prop} (h : Calls P f args w (Df w x k))
  (hK : ∀ w' [Kp1 w w'] (g : Bool) (a : Option Addr) (l : Nat) (c : Nat) [CZ w' (.agg #[.bool g, .slice a l c]) x k] [CN w' (.slice a l c) x.natAbs k], K (.returned (.agg #[.bool g, .slice a l c])) w') : Calls P f args w K := by
 refine h.mono ?_
 rintro e w' ⟨g, a, l, c, rfl, hx, hb⟩
 exact @hK w' ⟨hb⟩ g a l c hx ⟨(Cb hx).2⟩
variable {k1 k2 : Nat} {p1 : Option Addr}
theorem Qau [h1 : CF w (.agg #[.int .i64 n1, .int .i64 d1, .pointer p1]) x k1]  :
  Calls Tryz.prog 80 #[.agg #[.int .i64 n1, .int .i64 d1, .pointer p1]] w (fun e w' => e = .returned (.bool (decide (x = 0))) ∧ Below w.heap.size w w') := by
 rcases CF.cases h1 with ⟨rfl, en1, ed1, bn1, bm1, bd1, be1, bk1⟩ | ⟨rfl, rfl, hq1, q1, G1, A1, L1, C1, AA1, LL1, CC1, rfl, hB1, hZ1, hN1⟩
 ·by_cases hx : x = 0
  ·have HE : Hid (decide (x = 0) = true) := by show _ = _; simp [hx]
   obtain rfl : n1 = 0 := by rw [← en1, hx]; rfl
   clear hx en1 ed1; go_enter Tryz.func80, Tryz.ntmps80; go_wp2; go_ret
   exact E.fin (by rw [HE.out]; rfl)
  ·have HE : Hid (decide (x = 0) = false) := by show _ = _; simp [hx]
   have hn : (n1 == 0) = false := by rw [beq_eq_false_iff_ne]; intro e; exact hx (Rat.num_eq_zero.1 (by rw [en1, e]))
   clear hx en1 ed1; go_enter Tryz.func80, Tryz.ntmps80; go_wp2; go_ret
   exact E.fin (by rw [HE.out]; rfl)
 ·have HE : Hid (decide (x = 0) = false) := by show _ = _; simp [hq1]
  go_enter Tryz.func80, Tryz.ntmps80; go_wp2; go_ret
  exact E.fin (by rw [HE.out]; rfl)
theorem Jh {p2 : Option Addr} [h1 : CF w (.agg #[.int .i64 n1, .int .i64 d1, .pointer p1]) x k1] [h2 : CF w (.agg #[.int .i64 n2, .int .i64 d2, .pointer p2]) y k2] (b : k1 ≤ 100000 ∧ k2 ≤ 100000) :
  Calls Tryz.prog 133 #[.agg #[.int .i64 n1, .int .i64 d1, .pointer p1], .agg #[.int .i64 n2, .int .i64 d2, .pointer p2]] w (fun e w' => e = .returned (.int .i64 (isgn (x - y).num)) ∧ Below w.heap.size w w') := by
 rcases CF.cases h1 with ⟨rfl, en1, ed1, bn1, bm1, bd1, be1, bk1⟩ | ⟨rfl, rfl, hq1, q1, G1, A1, L1, C1, AA1, LL1, CC1, rfl, hB1, hZ1, hN1⟩
 ·rcases CF.cases h2 with ⟨rfl, en2, ed2, bn2, bm2, bd2, be2, bk2⟩ | ⟨rfl, rfl, hq2, q2, G2, A2, L2, C2, AA2, LL2, CC2, rfl, hB2, hZ2, hN2⟩
  ·by_cases hd : d1 = d2
   ·obtain rfl : d1 = d2 := hd; have HC := Lib.hid (Ql0 (x := x) (y := y) (by omega)); rw [en1, en2] at HC; clear en1 en2 ed1 ed2
    rcases Int.lt_trichotomy n1 n2 with h | h | h
    ·have HE : Hid (isgn (x - y).num = -1) := by show _ = _; rw [HC.out, if_pos h]
     go_enter Tryz.func133, Tryz.ntmps133; go_wp2; go_ret
     exact E.fin (by rw [HE.out]; rfl)
    ·subst h
     have HE : Hid (isgn (x - y).num = 0) := by show _ = _; rw [HC.out, if_neg (by omega), if_pos rfl]
     go_enter Tryz.func133, Tryz.ntmps133; go_wp2; go_ret
     exact E.fin (by rw [HE.out]; rfl)
    ·have HE : Hid (isgn (x - y).num = 1) := by show _ = _; rw [HC.out, if_neg (by omega), if_neg (by omega)]
     go_enter Tryz.func133, Tryz.ntmps133; go_wp2; go_ret
     exact E.fin (by rw [HE.out]; rfl)
   ·have q : (d1 == d2) = false := by rw [beq_eq_false_iff_ne]; exact hd
    clear en1 en2 ed1 ed2 hd; go_enter Tryz.func133, Tryz.ntmps133
    go_wp2_with (first
  | (go_at_call 171; refine Ab (Dn (by omega)) ?_; intros)
  | (go_at_call 129; refine Aa (Hc (by omega)) ?_; intros))
    go_ret; exact E.fin rfl
  ·clear en1 ed1; go_enter Tryz.func133, Tryz.ntmps133
   go_wp2_with (first
  | (go_at_call 171; refine Ab (Dn (by omega)) ?_; intros)
  | (go_at_call 129; refine Aa (Hc (by omega)) ?_; intros))
   go_ret; exact E.fin rfl
 ·go_enter Tryz.func133, Tryz.ntmps133
  go_wp2_with (first
  | (go_at_call 171; refine Ab (Dn (by omega)) ?_; intros)
  | (go_at_call 129; refine Aa (Hc (by omega)) ?_; intros))
  go_ret; exact E.fin rfl
theorem Pn {p2 : Option Addr} [h1 : CF w (.agg #[.int .i64 n1, .int .i64 d1, .pointer p1]) x k1] [h2 : CF w (.agg #[.int .i64 n2, .int .i64 d2, .pointer p2]) y k2] (b : k1 ≤ 100000 ∧ k2 ≤ 100000) :
  Calls Tryz.prog 118 #[.agg #[.int .i64 n1, .int .i64 d1, .pointer p1], .agg #[.int .i64 n2, .int .i64 d2, .pointer p2]] w (fun e w' => e = .returned (.bool (decide (x = y))) ∧ Below w.heap.size w w') := by
 by_cases hx : x = y
 ·have HE : Hid (decide (x = y) = true) := by show _ = _; simp [hx]
  have e0 : isgn (x - y).num = 0 := by rw [Vp, hx, Rat.num_eq_zero]; grind
  clear hx; go_enter Tryz.func118, Tryz.ntmps118
  go_wp2_with (first
  | (go_at_call 133; refine Aa (Jh (by omega)) ?_; intros))
  go_ret
  exact E.fin (by rw [HE.out]; rfl)
 ·have HE : Hid (decide (x = y) = false) := by show _ = _; simp [hx]
  have e0 : (isgn (x - y).num == 0) = false := by
   rw [beq_eq_false_iff_ne]; intro e
   rw [Vp, Rat.num_eq_zero] at e; exact hx (by grind)
  clear hx; go_enter Tryz.func118, Tryz.ntmps118
  go_wp2_with (first
  | (go_at_call 133; refine Aa (Jh (by omega)) ?_; intros))
  go_ret
  exact E.fin (by rw [HE.out]; rfl)
theorem Ri [h1 : CF w (.agg #[.int .i64 n1, .int .i64 d1, .pointer p1]) x k1] (b : k1 ≤ 400000) :
  Calls Tryz.prog 186 #[.agg #[.int .i64 n1, .int .i64 d1, .pointer p1]] w (Bk w x⁻¹ (k1 + 2)) := by
 rcases CF.cases h1 with ⟨rfl, en1, ed1, bn1, bm1, bd1, be1, bk1⟩ | ⟨rfl, rfl, hq1, q1, G1, A1, L1, C1, AA1, LL1, CC1, rfl, hB1, hZ1, hN1⟩
 ·rcases Int.lt_trichotomy n1 0 with h | h | h
  ·have HF : Hid (∀ W : World, CF W (.agg #[.int .i64 (-(d1 + 1)), .int .i64 (-n1 - 1), .pointer none]) x⁻¹ (k1 + 2)) := fun W => CF.small (by rw [Xs, en1, ed1, Int.sign_eq_neg_one_of_neg h]; omega) (by rw [Vm (by omega), en1]; omega) (by omega) (by omega) (by omega) (by omega)
   clear en1 ed1; go_enter Tryz.func186, Tryz.ntmps186; go_wp2; refine Ac rfl Tryz.underlying96 rfl (by kernel_rfl) rfl rfl rfl ?_; exact Bk.fin (hx := HF.out _) rfl (by omega)
  ·have HF : Hid (∀ W : World, CF W (.agg #[.int .i64 0, .int .i64 0, .pointer none]) x⁻¹ (k1 + 2)) := fun W => by
    rw [show x = 0 from Rat.num_eq_zero.1 (by omega), Rat.inv_zero]; exact CF.zero (by omega)
   subst h; clear en1 ed1; go_enter Tryz.func186, Tryz.ntmps186; go_wp2; refine Ac rfl Tryz.underlying96 rfl (by kernel_rfl) rfl rfl rfl ?_; exact Bk.fin (hx := HF.out _) rfl (by omega)
  ·have HF : Hid (∀ W : World, CF W (.agg #[.int .i64 (d1 + 1), .int .i64 (n1 - 1), .pointer none]) x⁻¹ (k1 + 2)) := fun W => CF.small (by rw [Xs, en1, ed1, Int.sign_eq_one_of_pos h]; omega) (by rw [Vm (by omega), en1]; omega) (by omega) (by omega) (by omega) (by omega)
   clear en1 ed1; go_enter Tryz.func186, Tryz.ntmps186; go_wp2; refine Ac rfl Tryz.underlying96 rfl (by kernel_rfl) rfl rfl rfl ?_; exact Bk.fin (hx := HF.out _) rfl (by omega)
 ·have hz := Cb hZ1
  have i1 : CN w (.slice A1 L1 C1) x.num.natAbs k1 := ⟨hz.2⟩
  have HE := Lib.hid (show mkRat (sgn G1 x.den) x.num.natAbs = x⁻¹ by rw [hz.1]; exact Qjw hq1)
  clear hz; go_enter Tryz.func186, Tryz.ntmps186; go_wp2_with fail; refine rgn [w.heap.size + 1] [] fun hH => ?_; refine tk 0 hH ?_; refine tk 1 hH ?_; refine tk 2 hH ?_; refine tk 3 hH ?_; refine tk 4 hH ?_; refine tk 5 hH ?_; refine tk 6 hH ?_; refine tk 7 hH ?_; refine tk 8 hH ?_; refine tk 9 hH ?_; refine tk 10 hH ?_; refine tk 11 hH ?_; refine tk 12 hH ?_; refine tk 13 hH ?_; refine tk 14 hH ?_; refine tk 15 hH ?_; refine tk 16 hH ?_; refine tk 17 hH (st 18 fun K hK => ?_); go_simp; refine Ab (Dp (by omega)) ?_; intros; refine hd hK fun hH => st 19 fun K hK => ?_; go_simp; refine hd hK fun hH => dn ?_; clear hH; go_wp2; refine Ac rfl Tryz.underlying96 rfl (by kernel_rfl) rfl rfl rfl ?_; exact Bk.fin HE.out (by omega)
theorem Dl {p2 : Option Addr} [h1 : CF w (.agg #[.int .i64 n1, .int .i64 d1, .pointer p1]) x k1] [h2 : CF w (.agg #[.int .i64 n2, .int .i64 d2, .pointer p2]) y k2] (b : k1 ≤ 100000 ∧ k2 ≤ 100000) :
  Calls Tryz.prog 175 #[.agg #[.int .i64 n1, .int .i64 d1, .pointer p1], .agg #[.int .i64 n2, .int .i64 d2, .pointer p2]] w (Bk w (x / y) (k1 + k2 + 4)) := by
 have HE := Lib.hid (Rat.div_def x y); go_enter Tryz.func175, Tryz.ntmps175; go_wp2_with fail; refine rgn [w.heap.size + 1 + 1] [] fun hH => ?_; refine tk 0 hH ?_; refine tk 1 hH (st 2 fun K hK => ?_); go_simp; refine Ab (Ri (by omega)) ?_; intros; refine hd hK fun hH => st 3 fun K hK => ?_; go_simp; refine Ab (B4 (by omega)) ?_; intros; refine hd hK fun hH => st 4 fun K hK => ?_; go_simp; refine hd hK fun hH => dn ?_; clear hH; go_wp2; refine Ac rfl Tryz.underlying96 rfl (by kernel_rfl) rfl rfl rfl ?_; exact Bk.fin HE.out.symm (by omega)
theorem Fw {g1 : Bool} {a1 : Option Addr} {l1 c1 : Nat} [h1 : CI w (.agg #[.bool g1, .slice a1 l1 c1]) z k1] (b : k1 ≤ 700000) :
  Calls Tryz.prog 184 #[.agg #[.bool g1, .slice a1 l1 c1]] w (Bk w ((z : Rat)) (k1 + 3)) := by
 have HE := Lib.hid (Ie z); go_enter Tryz.func184, Tryz.ntmps184
 go_wp2_with (first
  | (go_at_call 141; refine Ab (Dp (by omega)) ?_; intros))
 refine Ac rfl Tryz.underlying96 rfl (by kernel_rfl) rfl rfl rfl ?_; exact Bk.fin HE.out (by omega)
end
section
section
variable {P : Program} {ops : Array Oper} {Q : Exit → Act → World → Prop} {md : Region.Mode} {S : World → Prop} {T : Nat → Bool}
def H5 (ops : Array Oper) (i : Nat) : Option Tmp := (ops[i]?).bind (·.dst)
def Ai (f : Nat → Value) : List (Nat × Tmp) → Act → Act
 | [], a => a
 | p :: r, a => Ai f r (a.put (some p.2) (f p.1))
def upd (f : Nat → Value) (i : Nat) (v : Value) : Nat → Value := fun j => if j = i then v else f j
theorem Qar {a : Act} {d : Option Tmp} {x v : Value} : (a.put d x).put d v = a.put d v := by
 cases d with
 | none => rfl
 | some d => simp [Act.put]
theorem Qg2 {a : Act} {d e : Option Tmp} {x v : Value} (h : d ≠ e) : (a.put d x).put e v = (a.put e v).put d x := by
 cases d with
 | none => rfl
 | some d =>
  cases e with
  | none => rfl
  | some e =>
   have hde : d ≠ e := fun h' => h (by rw [h'])
   simp only [Act.put]; rw [Array.setIfInBounds_comm _ _ hde]
theorem Uz {f : Nat → Value} {d : Tmp} {v : Value} : ∀ (r : List (Nat × Tmp)) (a : Act), (∀ p ∈ r, p.2 ≠ d) → (Ai f r a).put (some d) v = Ai f r (a.put (some d) v)
 | [], _, _ => rfl
 | p :: r, a, h => by
  show (Ai f r _).put _ v = Ai f r _
  rw [Uz r _ (fun k hk => h k (List.mem_cons_of_mem _ hk)), Qg2 (fun e => h p (List.mem_cons_self ..) (Option.some.inj e))]
theorem Tn {f g : Nat → Value} : ∀ (r : List (Nat × Tmp)) (a : Act), (∀ p ∈ r, f p.1 = g p.1) → Ai f r a = Ai g r a
 | [], _, _ => rfl
 | p :: r, a, h => by
  show Ai f r _ = Ai g r _
  rw [h p (List.mem_cons_self ..), Tn r _ (fun k hk => h k (List.mem_cons_of_mem _ hk))]
theorem Pj {f : Nat → Value} {i : Nat} {d : Tmp} {v : Value} : ∀ (r : List (Nat × Tmp)) (a : Act), (r.map (·.2)).Nodup → (r.map (·.1)).Nodup → (i, d) ∈ r → (Ai f r a).put (some d) v = Ai (upd f i v) r a
 | [], _, _, _, hi => nomatch hi
 | p :: r, a, hn, hm, hi => by
  rw [List.map_cons, List.nodup_cons] at hn hm; obtain ⟨hj, hn⟩ := hn; obtain ⟨hk, hm⟩ := hm
  rcases List.mem_cons.1 hi with e | hi'
  ·subst e
   have hne : ∀ k ∈ r, k.2 ≠ d := fun k hk' e => hj (List.mem_map.2 ⟨k, hk', e⟩)
   show (Ai f r _).put _ v = Ai (upd f i v) r _
   rw [Uz r _ hne, Qar, show upd f i v i = v from if_pos rfl]
   exact Tn r _ (fun k hk' => (if_neg (fun e => hk (List.mem_map.2 ⟨k, hk', e⟩))).symm)
  ·have hij : p.1 ≠ i := fun e => hk (List.mem_map.2 ⟨_, hi', e.symm⟩)
   show (Ai f r (a.put _ (f p.1))).put _ v = Ai (upd f i v) r (a.put _ (upd f i v p.1))
   rw [show upd f i v p.1 = f p.1 from if_neg hij]
   exact Pj r _ hn hm hi'
theorem Qdy (a : Act) (d : Tmp) : a.put (some d) (a.tmps.getD d undef) = a := by
 obtain ⟨t, ds⟩ := a; simp only [Act.put, Act.mk.injEq, and_true]
 apply Array.ext_getElem?
 intro i; rw [Array.getElem?_setIfInBounds]
 split
 ·rename_i h
  subst h
  split
  ·rename_i h; simp [h]
  ·rename_i h; simp [h]
 ·rfl
theorem Nx {f : Nat → Value} (a : Act) : ∀ r : List (Nat × Tmp), (∀ p ∈ r, f p.1 = a.tmps.getD p.2 undef) → Ai f r a = a
 | [], _ => rfl
 | p :: r, h => by
  show Ai f r (a.put (some p.2) (f p.1)) = a
  rw [h p (List.mem_cons_self ..), Qdy]; exact Nx a r (fun q hq => h q (List.mem_cons_of_mem _ hq))
def Ku (a : Act) : List (Nat × Tmp) → Nat → Value
 | [], _ => undef
 | p :: r, i => if i = p.1 then a.tmps.getD p.2 undef else Ku a r i
theorem Qx (a : Act) : ∀ r : List (Nat × Tmp), (r.map (·.1)).Nodup → ∀ p ∈ r, Ku a r p.1 = a.tmps.getD p.2 undef
 | [], _, _, h => nomatch h
 | q :: r, hn, p, h => by
  rw [List.map_cons, List.nodup_cons] at hn
  rcases List.mem_cons.1 h with rfl | h
  ·exact if_pos rfl
  ·show (if p.1 = q.1 then _ else Ku a r p.1) = _
   rw [if_neg (fun e => hn.1 (List.mem_map.2 ⟨p, h, e⟩))]; exact Qx a r hn.2 p h
def lset : List Nat → Array Bool → Array Bool
 | [], L => L
 | i :: s, L => lset s (L.setIfInBounds i true)
theorem R4 : ∀ (s : List Nat) (L : Array Bool) (j : Nat), (lset s L)[j]? = if j ∈ s ∧ j < L.size then some true else L[j]?
 | [], L, j => by simp [lset]
 | i :: s, L, j => by
  show (lset s _)[j]? = _
  rw [R4 s, Array.getElem?_setIfInBounds, Array.size_setIfInBounds]
  by_cases hij : i = j
  ·subst hij
   by_cases hl : i < L.size <;> simp [hl]
  ·have hji : ¬ j = i := fun e => hij e.symm
   simp [hij, hji]
theorem Zl (todo : List Nat) (g : Nat → Bool) {i : Nat} (hi : i ∈ todo) (L : Array Bool) : (lset (todo.filter g) L).setIfInBounds i true = lset (todo.filter (fun j => g j || j == i)) L := by
 apply Array.ext_getElem?
 intro j
 have hs : ∀ (s : List Nat) (L : Array Bool), (lset s L).size = L.size := by
  intro s
  induction s with
  | nil => intro L; rfl
  | cons i s ih => intro L; show (lset s _).size = _; rw [ih, Array.size_setIfInBounds]
 rw [Array.getElem?_setIfInBounds, R4, R4, hs]; simp only [List.mem_filter, Bool.or_eq_true, beq_iff_eq]
 by_cases hij : i = j
 ·subst hij
  by_cases hl : i < L.size <;> simp [hl, hi]
 ·have hji : ¬ j = i := fun e => hij e.symm
  simp [hij, hji]
def subs : List Nat → List (List Nat)
 | [] => [[]]
 | i :: r => (subs r).flatMap fun s => [s, i :: s]
theorem Sc (g : Nat → Bool) : ∀ l, l.filter g ∈ subs l
 | [] => List.mem_cons_self ..
 | i :: r => by
  rw [List.filter_cons]
  refine List.mem_flatMap.2 ⟨_, Sc g r, ?_⟩
  split
  ·exact List.mem_cons_of_mem _ (List.mem_cons_self ..)
  ·exact List.mem_cons_self ..
def Wi (md : Region.Mode) (ops : Array Oper) (L0 : Array Bool) (todo : List Nat) (pre : Nat → List Nat) : Bool :=
 (subs todo).all fun s => !(s.all fun i => (pre i).all fun j => s.contains j) || s == todo || (!(Region.ready md ops (lset s L0)).isEmpty && (Region.ready md ops (lset s L0)).all fun i => todo.contains i && !s.contains i && (pre i).all fun j => s.contains j)
theorem Ow {g : Nat → Bool} {i : Nat} (hg : g i = false) : ∀ l : List Nat, l.Nodup → i ∈ l → (l.filter fun j => !g j).length = (l.filter fun j => !(g j || j == i)).length + 1
 | [], _, hi => nomatch hi
 | j :: r, hn, hi => by
  rw [List.nodup_cons] at hn
  by_cases hij : j = i
  ·subst hij
   have h0 : (r.filter fun k => !g k) = r.filter fun k => !(g k || k == j) := by
    apply List.filter_congr
    intro k hk
    have : k ≠ j := fun e => hn.1 (e ▸ hk)
    simp [this]
   simp [hg, h0]
  ·have := Ow hg r hn.2 ((List.mem_cons.1 hi).resolve_left (fun e => hij e.symm))
   simp only [List.filter_cons, Bool.or_false, show (j == i) = false by simpa using hij]
   split <;> simp [this]
class Last (φ : Value → World → Prop) : Prop where out : ∀ v W W', Below W.heap.size W W' → φ v W → φ v W'
def phi : List (Value → World → Prop) → List Nat → Nat → Value → World → Prop
 | φ :: r, j :: s, i => if i = j then φ else phi r s i
 | _, _, _ => fun _ _ => True
class Lasts (l : List (Value → World → Prop)) : Prop where out : ∀ (s : List Nat) (i : Nat), Last (phi l s i)
instance Lasts.nil : Lasts [] := ⟨fun _ _ => ⟨fun _ _ _ _ _ => trivial⟩⟩
instance Lasts.cons {φ : Value → World → Prop} {l : List (Value → World → Prop)} [h1 : Last φ] [h2 : Lasts l] : Lasts (φ :: l) := ⟨fun s i => by
 cases s with
 | nil => exact ⟨fun _ _ _ _ _ => trivial⟩
 | cons j s =>
  show Last (if i = j then φ else phi l s i)
  split
  ·exact h1
  ·exact h2.out s i⟩
def Oy (v : Value) (W : World) : Prop := ∃ b, v = .pointer (some ⟨b, 0, none⟩) ∧ W.heap.size ≤ b
def Ma (v : Value) (W : World) : Prop := ∃ b, v = .pointer (some ⟨b, 0, none⟩) ∧ b < W.heap.size
theorem Mh {u v : Value} {W : World} (h1 : Oy v W) (h2 : Ma u W) : u ≠ v := by
 obtain ⟨b, rfl, hb⟩ := h1; obtain ⟨c, rfl, hc⟩ := h2; intro e; simp only [Value.pointer.injEq, Option.some.injEq, Addr.mk.injEq, and_true] at e; omega
theorem Xr {b c : Nat} (h : (Value.pointer (some ⟨b, 0, none⟩)) ≠ .pointer (some ⟨c, 0, none⟩)) : NeN b c := ⟨fun e => h (by rw [e])⟩
theorem Jq (dl : List (Nat × Tmp)) (pre : Nat → List Nat) (φs : List (Value → World → Prop)) [hΦ : Lasts φs] (A : List Nat) {L0 : Array Bool} {a0 : Act} {w : World} {F : Nat} (m : Nat) (hF : F = m + dl.length)
  (hchk : Wi md ops L0 (dl.map (·.1)) pre = true) (hd : (dl.map (·.2)).Nodup) (hnd : (dl.map (·.1)).Nodup) (hds : (dl.all fun p => H5 ops p.1 == some p.2) = true) (hA : ∀ i ∈ A, ∀ v W, phi φs (dl.map (·.1)) i v W → Ma v W) (hSk : ∀ W W', Below W.heap.size W W' → S W → S W') (hS : S w)
  (hop : ∀ i ∈ dl.map (·.1), ∀ (f : Nat → Value) (W : World), S W → Below w.heap.size w W → (∀ j ∈ pre i, phi φs (dl.map (·.1)) j (f j) W) → ∃ o, ops[i]? = some o ∧ ∀ K' : Act → World → Prop,
   Shut (∀ a' v W', a' = (Ai f dl a0).put o.dst v → Below W.heap.size W W' → phi φs (dl.map (·.1)) i v W' → (i ∈ A → Oy v W) → K' a' W') →
   if Region.wanted o (yielded ops (Ai f dl a0).tmps) = true then Oper.wp P o (Ai f dl a0) W K' Q else K' ((Ai f dl a0).put o.dst undef) W)
  (hend : ∀ (f : Nat → Value) (W : World), S W → Below w.heap.size w W → (∀ j ∈ dl.map (·.1), phi φs (dl.map (·.1)) j (f j) W) → (∀ j k, j ∈ A → k ∈ A → j ∈ dl.map (·.1) → k ∈ dl.map (·.1) → j ≠ k → f j ≠ f k) → A5 P md ops Q S T m (lset (dl.map (·.1)) L0) (Ai f dl a0) W) :
  A5 P md ops Q S T F L0 a0 w := by
 subst hF
 have hlen : dl.length = (dl.map (·.1)).length := by rw [List.length_map]
 rw [hlen]
 have hds' : ∀ i ∈ dl.map (·.1), ∃ d, (i, d) ∈ dl ∧ H5 ops i = some d := fun i hi => by
  obtain ⟨p, hp, rfl⟩ := List.mem_map.1 hi
  exact ⟨p.2, hp, by simpa using List.all_eq_true.1 hds p hp⟩
 generalize hT : dl.map (·.1) = todo at *
 have key : ∀ (n : Nat) (g : Nat → Bool) (f : Nat → Value) (W : World), (todo.filter fun j => !g j).length = n → S W → Below w.heap.size w W → (∀ j ∈ todo, g j = true → phi φs todo j (f j) W) → (∀ j k, j ∈ A → k ∈ A → j ∈ todo → k ∈ todo → g j = true → g k = true → j ≠ k → f j ≠ f k) → (∀ j ∈ todo, g j = true → ∀ k ∈ pre j, k ∈ todo ∧ g k = true) →
   A5 P md ops Q S T (m + n) (lset (todo.filter g) L0) (Ai f dl a0) W := by
  intro n
  induction n with
  | zero =>
   intro g f W hn hSW hB hf hne _
   have hall : ∀ j ∈ todo, g j = true := fun j hj => by
    have h0 := List.eq_nil_of_length_eq_zero hn
    have := List.filter_eq_nil_iff.1 h0 j hj
    simpa using this
   rw [List.filter_eq_self.2 hall]; exact hend f W hSW hB (fun j hj => hf j hj (hall j hj)) (fun j k ha hb hj hk => hne j k ha hb hj hk (hall j hj) (hall k hk))
  | succ n ih =>
   intro g f W hn hSW hB hf hnf hcl
   have hs := List.all_eq_true.1 hchk _ (Sc g todo)
   have hne : ((todo.filter g == todo) : Bool) = false := by
    rw [beq_eq_false_iff_ne]; intro e
    have hall := List.filter_eq_self.1 e
    have : (todo.filter fun j => !g j) = [] := List.filter_eq_nil_iff.2 (fun j hj => by simp [hall j hj])
    rw [this] at hn; simp at hn
   have hcl2 : ((todo.filter g).all fun i => (pre i).all fun j => (todo.filter g).contains j) = true := by
    simp only [List.all_eq_true, List.contains_iff_mem, List.mem_filter]
    exact fun i hi j hj => hcl i hi.1 hi.2 j hj
   rw [hne, hcl2, Bool.not_true, Bool.false_or, Bool.false_or, Bool.and_eq_true] at hs; obtain ⟨hr, hs⟩ := hs
   refine ⟨fun h0 => (by rw [h0] at hr; simp at hr), fun i hi => ?_⟩
   have hi2 := List.all_eq_true.1 hs i hi
   simp only [Bool.and_eq_true, List.contains_iff_mem, Bool.not_eq_true', List.all_eq_true] at hi2; obtain ⟨⟨hit, his⟩, hp⟩ := hi2
   have hgi : g i = false := by
    cases hg : g i with
    | false => rfl
    | true =>
     have : (todo.filter g).contains i = true := List.contains_iff_mem.2 (List.mem_filter.2 ⟨hit, hg⟩)
     rw [this] at his
     cases his
   obtain ⟨o, ho, H⟩ := hop i hit f W hSW hB (fun j hj => by
    have := List.mem_filter.1 (hp j hj)
    exact hf j this.1 this.2)
   obtain ⟨d, hdm, hdo⟩ := hds' i hit
   refine wpOp_step ho (fun K' hK => H K' (fun a' v W' ha hb hv hnw => hK _ _ ⟨fun _ => hSk _ _ hb hSW, ?_⟩))
   have hdst : o.dst = some d := by rw [← hdo]; simp [H5, ho]
   rw [ha, Zl todo g hit, hdst, Pj dl a0 hd (hT ▸ hnd) hdm]
   refine ih _ _ W' (by have := Ow hgi todo hnd hit; omega) (hSk _ _ hb hSW) (Ar hB hb) (fun j hj hgj => ?_) (fun j k haj hak hj hk hgj hgk hjk => ?_) (fun j hj hgj k hk => ?_)
   ·by_cases hji : j = i
    ·subst hji
     rw [show upd f j v j = v from if_pos rfl]
     exact hv
    ·rw [show upd f i v j = f j from if_neg hji]
     refine (hΦ.out todo j).out _ _ _ hb (hf j hj ?_)
     simpa [hji] using hgj
   ·by_cases hji : j = i
    ·have hki : ¬ k = i := fun e => hjk (hji.trans e.symm)
     have hgk' : g k = true := by simpa [hki] using hgk
     rw [show upd f i v k = f k from if_neg hki, show upd f i v j = v from if_pos hji]
     exact (Mh (hnw (hji ▸ haj)) (hA k hak _ _ (hf k hk hgk'))).symm
    ·have hgj' : g j = true := by simpa [hji] using hgj
     rw [show upd f i v j = f j from if_neg hji]
     by_cases hki : k = i
     ·rw [show upd f i v k = v from if_pos hki]
      exact Mh (hnw (hki ▸ hak)) (hA j haj _ _ (hf j hj hgj'))
     ·rw [show upd f i v k = f k from if_neg hki]
      exact hnf j k haj hak hj hk hgj' (by simpa [hki] using hgk) hjk
   ·by_cases hji : j = i
    ·subst hji
     have := List.mem_filter.1 (hp k hk)
     exact ⟨this.1, by simp [this.2]⟩
    ·have := hcl j hj (by simpa [hji] using hgj) k hk
     exact ⟨this.1, by simp [this.2]⟩
 have h0 := key todo.length (fun _ => false) (Ku a0 dl) w (by simp) hS (Below.refl _ _) (fun _ _ h => nomatch h) (fun _ _ _ _ _ _ h => nomatch h) (fun _ _ h => nomatch h)
 rw [Nx a0 dl (Qx a0 dl (hT ▸ hnd))] at h0
 have hnil : todo.filter (fun _ => false) = [] := List.filter_eq_nil_iff.2 (fun _ _ => by simp)
 rw [hnil] at h0; exact h0
theorem Ex.below {w W W' : World} {L : List Nat} (h : Below W.heap.size W W') (e : Ex w L W) : Ex w L W' :=
 have := Kp1.mk h
 ii
end
def Qhf (n k : Nat) (v : Value) (W : World) : Prop := ∃ a l c, v = .slice a l c ∧ CN W (.slice a l c) n k
def Qbq (n k : Nat) (v : Value) (W : World) : Prop := ∃ a l c, v = .slice a l c ∧ CR W (.slice a l c) n k
def Du (w0 : World) (t : TypeId) (l : List Value) (v : Value) (W : World) : Prop := ∃ b, v = .pointer (some ⟨b, 0, none⟩) ∧ Bx W b t l ∧ Ge w0 b ∧ Gg w0 b
variable {k n : Nat}
instance  : Last (Qhf n k) := ⟨fun _ _ _ hb ⟨a, l, c, e, _⟩ => have := Kp1.mk hb; ⟨a, l, c, e, ii⟩⟩
instance  : Last (Qbq n k) := ⟨fun _ _ _ hb ⟨a, l, c, e, _⟩ => have := Kp1.mk hb; ⟨a, l, c, e, ii⟩⟩
variable {W w0 : World} {l : List Value} {t : TypeId}
instance  : Last (Du w0 t l) := ⟨fun _ _ _ hb ⟨b, e, _, h1, h2⟩ => have := Kp1.mk hb; ⟨b, e, ii, h1, h2⟩⟩
def C4 (v0 v : Value) (_ : World) : Prop := v = v0
instance {v0 : Value} : Last (C4 v0) := ⟨fun _ _ _ _ e => e⟩
theorem Du.fin {b : Nat} [h : Bx W b t l] [h1 : Ge w0 b] [h2 : Gg w0 b] : Du w0 t l (.pointer (some ⟨b, 0, none⟩)) W := ⟨b, rfl, h, h1, h2⟩
theorem Du.old {v : Value} (h : Du w0 t l v W) : Ma v W := by
 obtain ⟨b, e, h, _, _⟩ := h; exact ⟨b, e, h.lt⟩
end
section
open Go Go.RowKit
theorem Tryz.gLi : Tryz.prog.globalNamed "bspregion/api.ErrLimit" = some 2 := by kernel_rfl
theorem Tryz.gLit : (Tryz.prog.globals[2]?).map (·.type) = some 56 := by kernel_rfl
theorem Tryz.rcellsEs : Tryz.prog.cellsOf 346 = 1 := by kernel_rfl
theorem Tryz.rcellsStr : Tryz.prog.cellsOf 9 = 1 := by kernel_rfl
theorem Tryz.rstar : "*" ++ "errors.errorString" = "*errors.errorString" := by decide
theorem Tryz.rrowEs (u : TypeId) (h : Tryz.prog.typeName? 3 u = some "*errors.errorString") : u = 329 :=
 typeName_ptr_named (nm := "errors.errorString") (by rw [Tryz.rstar]; kernel_rfl) (by kernel_rfl) (by decide) u (by rw [Tryz.rstar]; exact h)
theorem Qh7 {W : World} {n : String} {g : Nat} {a : Addr} (hg : Tryz.prog.globalNamed n = some g) (hv : W.var? Tryz.prog n = some #[.iface 329 (.pointer (some a))]) (hr : ∃ c t, W.heap[a.block]? = some (.cells c t (0, 0))) : Snt W g a W :=
 Snt.mk1 (by simpa using World.var?_cell hg hv 0) hr
end
end Go.Proofs.YtpnpnlmlamfpmaaGreatDoor
