/-
  What a walk knows of memory, as classes: readings of numbers, boxes of the call's own with what they hold, and the order of the worlds. The premises of a contract are then found by instance search.
  Printed by a small program (mkcls.py).
-/
import Derived.Test.YtlameeijogdckaaGreatCall
import Derived.Deep.RegionHeld3
namespace Go.Proofs.YtlameeijogdckaaGreat
open Go.RowKit

/-- From W to W2 only new memory was written. -/
class Kp1 (W : outParam World) (W2 : World) : Prop where out : Below W.heap.size W W2
/-- From W to W2 the tape in block g was read on; else only new memory was written. -/
class Tp1 (W : outParam World) (W2 : World) (g : outParam Nat) : Prop where
  gb : W.grownBy W2 (some g)
  tp : TapeAt W g
/-- The number of blocks. -/
class Sz (W : World) (b : outParam Nat) : Prop where out : W.heap.size = b
instance (priority := low) Sz.base {W : World} : Sz W W.heap.size := ⟨rfl⟩
instance Sz.al {W : World} {b : Nat} {o : Obj} [h : Sz W b] : Sz (W.alloc o) (b + 1) := ⟨by rw [World.size_alloc, h.out]⟩
instance Sz.dr {W : World} {b : Nat} [h : Sz W b] : Sz W.drew b := ⟨h.out⟩
instance Sz.drN {W : World} {b j : Nat} [h : Sz W b] : Sz (W.drewN j) b := ⟨h.out⟩
instance Sz.st {W : World} {b : Nat} {p : Addr} {x : Value} [h : Sz W b] : Sz (W.setCell p x) b := ⟨by rw [World.size_setCell, h.out]⟩
/-- No digit. -/
class Ndg (v : Value) : Prop where out : isDigit32 v = false
instance {b : Bool} : Ndg (.bool b) := ⟨rfl⟩
instance {a : Option Addr} {l c : Nat} : Ndg (.slice a l c) := ⟨rfl⟩
instance {a : Option Addr} : Ndg (.pointer a) := ⟨rfl⟩
instance {n : Int} : Ndg (.int .i64 n) := ⟨rfl⟩
instance {n : Int} : Ndg (.int .u64 n) := ⟨rfl⟩
class Ndl (l : List Value) : Prop where out : ∀ u ∈ l, isDigit32 u = false
instance Ndl.nil : Ndl [] := ⟨fun _ h => nomatch h⟩
instance Ndl.cons {v : Value} {l : List Value} [h1 : Ndg v] [h2 : Ndl l] : Ndl (v :: l) := ⟨fun u h => by
  rcases List.mem_cons.1 h with rfl | h
  · exact h1.out
  · exact h2.out _ h⟩
instance Ndl.set {v : Value} {l : List Value} {i : Nat} [h1 : Ndg v] [h2 : Ndl l] : Ndl (l.set i v) := ⟨fun u h => by
  rcases List.mem_or_eq_of_mem_set h with h | rfl
  · exact h2.out _ h
  · exact h1.out⟩
/-- Types of boxes: neither digits nor the tape nor a pair of big numbers. -/
class BoxT (t : TypeId) : Prop where
  tape : t ≠ 139
  pair : t ≠ 226
instance : BoxT 25 := by constructor <;> decide
instance : BoxT 27 := by constructor <;> decide
instance : BoxT 29 := by constructor <;> decide
instance : BoxT 51 := by constructor <;> decide
instance : BoxT 34 := by constructor <;> decide
instance : BoxT 36 := by constructor <;> decide
instance : BoxT 38 := by constructor <;> decide
instance : BoxT 55 := by constructor <;> decide
instance : BoxT 115 := by constructor <;> decide
instance : BoxT 117 := by constructor <;> decide
instance : BoxT 128 := by constructor <;> decide
instance : BoxT 4 := by constructor <;> decide
instance : BoxT 3 := by constructor <;> decide
instance : BoxT 2 := by constructor <;> decide
instance : BoxT 151 := by constructor <;> decide
instance : BoxT 23 := by constructor <;> decide
instance : BoxT 32 := by constructor <;> decide
instance : BoxT 22 := by constructor <;> decide
instance : BoxT 231 := by constructor <;> decide
instance : BoxT 9 := by constructor <;> decide
/-- a is less than b. -/
class LtN (a b : Nat) : Prop where out : a < b
class NeN (a b : Nat) : Prop where out : a ≠ b
instance LtN.one {a : Nat} : LtN a (a + 1) := ⟨Nat.lt_succ_self a⟩
instance (priority := low) LtN.step {a b : Nat} [h : LtN a b] : LtN a (b + 1) := ⟨Nat.lt_succ_of_lt h.out⟩
instance NeN.l {a b : Nat} [h : LtN a b] : NeN a b := ⟨Nat.ne_of_lt h.out⟩
instance NeN.r {a b : Nat} [h : LtN b a] : NeN a b := ⟨Nat.ne_of_gt h.out⟩
theorem heap_al_lt {W : World} {o : Obj} {b : Nat} (h : b < W.heap.size) : (W.alloc o).heap[b]? = W.heap[b]? := by
  simp only [World.alloc, Array.getElem?_push]; rw [if_neg (by omega)]
theorem heap_al_new {W : World} {o : Obj} : (W.alloc o).heap[W.heap.size]? = some o := by
  show (W.heap.push o)[W.heap.size]? = some o
  simp
/-- The box b holds the cells l; it is of type t. -/
class Bx (W : World) (b : Nat) (t : outParam TypeId) (l : outParam (List Value)) : Prop where out : W.heap[b]? = some (.cells l.toArray t (0, 0))
theorem Bx.lt {W : World} {b : Nat} {t : TypeId} {l : List Value} (h : Bx W b t l) : b < W.heap.size := heap_lt h.out
instance Bx.new {W : World} {b : Nat} {t : TypeId} {l : List Value} [h : Sz W b] : Bx (W.alloc (.cells l.toArray t (0, 0))) b t l := ⟨by rw [← h.out]; exact heap_al_new⟩
instance (priority := low) Bx.al {W : World} {b : Nat} {t : TypeId} {l : List Value} {o : Obj} [h : Bx W b t l] : Bx (W.alloc o) b t l := ⟨by rw [heap_al_lt h.lt]; exact h.out⟩
instance Bx.dr {W : World} {b : Nat} {t : TypeId} {l : List Value} [h : Bx W b t l] : Bx W.drew b t l := ⟨h.out⟩
instance Bx.drN {W : World} {b j : Nat} {t : TypeId} {l : List Value} [h : Bx W b t l] : Bx (W.drewN j) b t l := ⟨h.out⟩
instance Bx.kp {W W2 : World} {b : Nat} {t : TypeId} {l : List Value} [k : Kp1 W W2] [h : Bx W b t l] : Bx W2 b t l := ⟨by rw [k.out.block b h.lt]; exact h.out⟩
instance Bx.tp {W W2 : World} {b g : Nat} {t : TypeId} {l : List Value} [k : Tp1 W W2 g] [h : Bx W b t l] [ht : BoxT t] : Bx W2 b t l := ⟨by
  rw [k.gb.block b h.lt ?_]
  · exact h.out
  · intro e
    injection e with e
    subst e
    obtain ⟨a, n, c, at_, zs, hh, _⟩ := k.tp
    rw [h.out] at hh
    injection hh with hh
    injection hh with _ h2
    exact ht.tape h2⟩
instance (priority := low) Bx.setO {W : World} {b q i : Nat} {x : Value} {t : TypeId} {l : List Value} [h : Bx W b t l] [n : NeN q b] : Bx (W.setCell ⟨q, i, none⟩ x) b t l := ⟨by
  simp only [World.setCell, Array.getElem?_modify]
  rw [if_neg n.out]; exact h.out⟩
instance Bx.setS {W : World} {b i : Nat} {x : Value} {t : TypeId} {l : List Value} [h : Bx W b t l] : Bx (W.setCell ⟨b, i, none⟩ x) b t (l.set i x) := ⟨by
  simp only [World.setCell, Array.getElem?_modify, if_pos]
  rw [h.out]; simp⟩
instance LtN.bx {W : World} {b : Nat} {t : TypeId} {l : List Value} [h : Bx W b t l] : LtN b W.heap.size := ⟨h.lt⟩
@[go_sem] theorem cell_bx {W : World} {b i : Nat} {t : TypeId} {l : List Value} [h : Bx W b t l] : W.cell? ⟨b, i, none⟩ = l[i]? := by
  simp [World.cell?, h.out]
@[go_sem] theorem frozen_bx {W : World} {b i : Nat} {t : TypeId} {l : List Value} [h : Bx W b t l] : W.frozen? ⟨b, i, none⟩ = false := by
  simp [World.frozen?, h.out]
/-- A box that no reading looks into. -/
class SoftB (W : World) (b : Nat) : Prop where out : ∃ t l, W.heap[b]? = some (.cells (List.toArray l) t (0, 0)) ∧ BoxT t ∧ ∀ u ∈ l, isDigit32 u = false
instance SoftB.mk' {W : World} {b : Nat} {t : TypeId} {l : List Value} [h : Bx W b t l] [ht : BoxT t] [hl : Ndl l] : SoftB W b := ⟨t, l, h.out, ht, hl.out⟩
theorem SoftB.no {W : World} {q i : Nat} {u : Value} (h : SoftB W q) (hc : W.cell? ⟨q, i, none⟩ = some u) : isDigit32 u = false := by
  obtain ⟨t, l, h1, _, h2⟩ := h.out
  simp only [World.cell?, h1] at hc
  have hc : l[i]? = some u := by simpa using hc
  exact h2 u (List.mem_of_getElem? hc)
/-- All new memory lies from w's end on. -/
class Kp (w W : World) : Prop where out : Below w.heap.size w W
class Ge (w : World) (b : Nat) : Prop where out : w.heap.size ≤ b
instance Ge.base {w : World} : Ge w w.heap.size := ⟨Nat.le_refl _⟩
instance Ge.step {w : World} {b : Nat} [h : Ge w b] : Ge w (b + 1) := ⟨Nat.le_succ_of_le h.out⟩
instance (priority := low) Ge.sz {w : World} {b : Nat} [h : Sz w b] : Ge w b := ⟨Nat.le_of_eq h.out⟩
instance (priority := low) Ge.kp {w W : World} [h : Kp w W] : Ge w W.heap.size := ⟨h.out.size⟩
instance Kp.refl {w : World} : Kp w w := ⟨Below.refl _ _⟩
instance Kp.al {w W : World} {o : Obj} [h : Kp w W] : Kp w (W.alloc o) := ⟨blw_alloc h.out o⟩
instance Kp.dr {w W : World} [h : Kp w W] : Kp w W.drew := ⟨blw_drew h.out⟩
instance Kp.drN {w W : World} {j : Nat} [h : Kp w W] : Kp w (W.drewN j) := ⟨blw_drewN h.out j⟩
instance Kp.st {w W : World} {q i : Nat} {x : Value} [h : Kp w W] [g : Ge w q] : Kp w (W.setCell ⟨q, i, none⟩ x) := ⟨blw_set x h.out g.out⟩
instance (priority := low) Kp.kp {w W W2 : World} [k : Kp1 W W2] [h : Kp w W] : Kp w W2 := ⟨blw_trans h.out k.out⟩
instance (priority := low) Kp.tp {w W W2 : World} {g : Nat} [k : Tp1 W W2 g] [h : Kp w W] [n : Ge w g] : Kp w W2 := ⟨blw_tp h.out k.gb n.out⟩
/-- The tape. -/
class Ct (W : World) (g : Nat) : Prop where out : TapeAt W g
instance Ct.al {W : World} {g : Nat} {o : Obj} [h : Ct W g] : Ct (W.alloc o) g := ⟨h.out.al⟩
instance Ct.dr {W : World} {g : Nat} [h : Ct W g] : Ct W.drew g := ⟨h.out.dr⟩
instance Ct.drN {W : World} {g j : Nat} [h : Ct W g] : Ct (W.drewN j) g := ⟨h.out.drN⟩
instance Ct.kp {W W2 : World} {g : Nat} [k : Kp1 W W2] [h : Ct W g] : Ct W2 g := ⟨h.out.keep k.out⟩
instance Ct.st {W : World} {g q i : Nat} {x : Value} [h : Ct W g] [n : LtN g q] : Ct (W.setCell ⟨q, i, none⟩ x) g := ⟨h.out.set2 n.out⟩
instance LtN.ct {W : World} {g : Nat} [h : Ct W g] : LtN g W.heap.size := ⟨h.out.lt⟩
/-- From w on, the tape g apart, only new memory was written. -/
class Gb (w W : World) (g : Nat) : Prop where out : w.grownBy W (some g)
instance Gb.refl {w : World} {g : Nat} : Gb w w g := ⟨gb_refl _ _⟩
instance Gb.al {w W : World} {g : Nat} {o : Obj} [h : Gb w W g] : Gb w (W.alloc o) g := ⟨gb_al h.out⟩
instance Gb.dr {w W : World} {g : Nat} [h : Gb w W g] : Gb w W.drew g := ⟨gb_dr h.out⟩
instance Gb.drN {w W : World} {g j : Nat} [h : Gb w W g] : Gb w (W.drewN j) g := ⟨gb_drN h.out⟩
instance (priority := low) Gb.kp {w W W2 : World} {g : Nat} [k : Kp1 W W2] [h : Gb w W g] : Gb w W2 g := ⟨gb_keep2 k.out h.out⟩
instance (priority := low) Gb.tp {w W W2 : World} {g : Nat} [k : Tp1 W W2 g] [h : Gb w W g] : Gb w W2 g := ⟨gb_tp2 k.gb h.out⟩
/-- There are no fewer blocks. -/
class Kz (w W : World) : Prop where out : w.heap.size ≤ W.heap.size
instance Kz.refl {w : World} : Kz w w := ⟨Nat.le_refl _⟩
instance Kz.al {w W : World} {o : Obj} [h : Kz w W] : Kz w (W.alloc o) := ⟨by rw [World.size_alloc]; exact Nat.le_succ_of_le h.out⟩
instance Kz.dr {w W : World} [h : Kz w W] : Kz w W.drew := ⟨h.out⟩
instance Kz.drN {w W : World} {j : Nat} [h : Kz w W] : Kz w (W.drewN j) := ⟨h.out⟩
instance Kz.st {w W : World} {p : Addr} {x : Value} [h : Kz w W] : Kz w (W.setCell p x) := ⟨by rw [World.size_setCell]; exact h.out⟩
instance (priority := low) Kz.kp {w W W2 : World} [k : Kp1 W W2] [h : Kz w W] : Kz w W2 := ⟨Nat.le_trans h.out k.out.size⟩
instance (priority := low) Kz.tp {w W W2 : World} {g : Nat} [k : Tp1 W W2 g] [h : Kz w W] : Kz w W2 := ⟨Nat.le_trans h.out k.gb.size⟩
class Gg (w : World) (b : Nat) : Prop where out : w.heap.size ≤ b
instance Gg.base {w : World} : Gg w w.heap.size := ⟨Nat.le_refl _⟩
instance Gg.step {w : World} {b : Nat} [h : Gg w b] : Gg w (b + 1) := ⟨Nat.le_succ_of_le h.out⟩
instance (priority := low) Gg.sz {w : World} {b : Nat} [h : Sz w b] : Gg w b := ⟨Nat.le_of_eq h.out⟩
instance (priority := low) Gg.gb {w W : World} [h : Kz w W] : Gg w W.heap.size := ⟨h.out⟩
instance Gb.st {w W : World} {g q i : Nat} {x : Value} [h : Gb w W g] [n : Gg w q] : Gb w (W.setCell ⟨q, i, none⟩ x) g := ⟨gb_set n.out h.out⟩
/-- W is as W0 was in the blocks that were there, but for those of L. -/
class Ex (W0 : World) (L : List Nat) (W : World) : Prop where
  size : W0.heap.size ≤ W.heap.size
  block : ∀ k, k < W0.heap.size → k ∉ L → W.heap[k]? = W0.heap[k]?
/-- The same as a fact of the walk. -/
class Ex1 (W0 : outParam World) (L : outParam (List Nat)) (W : World) : Prop where out : Ex W0 L W
class InL (q : Nat) (L : List Nat) : Prop where out : q ∈ L
instance InL.hd {q : Nat} {L : List Nat} : InL q (q :: L) := ⟨List.mem_cons_self ..⟩
instance (priority := low) InL.tl {q x : Nat} {L : List Nat} [h : InL q L] : InL q (x :: L) := ⟨List.mem_cons_of_mem _ h.out⟩
class NoL (q : Nat) (L : List Nat) : Prop where out : q ∉ L
instance NoL.nil {q : Nat} : NoL q [] := ⟨fun h => nomatch h⟩
instance NoL.cons {q x : Nat} {L : List Nat} [h1 : NeN q x] [h2 : NoL q L] : NoL q (x :: L) := ⟨fun h => (List.mem_cons.1 h).elim h1.out h2.out⟩
instance Ex.refl {W : World} {L : List Nat} : Ex W L W := ⟨Nat.le_refl _, fun _ _ _ => rfl⟩
instance Ex.dr {W0 W : World} {L : List Nat} [h : Ex W0 L W] : Ex W0 L W.drew := ⟨h.size, h.block⟩
instance Ex.drN {W0 W : World} {L : List Nat} {j : Nat} [h : Ex W0 L W] : Ex W0 L (W.drewN j) := ⟨h.size, h.block⟩
instance Ex.al {W0 W : World} {L : List Nat} {o : Obj} [h : Ex W0 L W] : Ex W0 L (W.alloc o) :=
  ⟨by rw [World.size_alloc]; exact Nat.le_succ_of_le h.size, fun k hk hL => by rw [heap_al_lt (Nat.lt_of_lt_of_le hk h.size)]; exact h.block k hk hL⟩
instance (priority := low) Ex.kp {W0 W W2 : World} {L : List Nat} [k : Kp1 W W2] [h : Ex W0 L W] : Ex W0 L W2 :=
  ⟨Nat.le_trans h.size k.out.size, fun j hj hL => by rw [k.out.block j (Nat.lt_of_lt_of_le hj h.size)]; exact h.block j hj hL⟩
instance (priority := low) Ex.tp {W0 W W2 : World} {g : Nat} {L : List Nat} [k : Tp1 W W2 g] [n : InL g L] [h : Ex W0 L W] : Ex W0 L W2 :=
  ⟨Nat.le_trans h.size k.gb.size, fun j hj hL => by
    rw [k.gb.block j (Nat.lt_of_lt_of_le hj h.size) (fun e => by injection e with e; subst e; exact hL n.out)]; exact h.block j hj hL⟩
instance Ex.st {W0 W : World} {L : List Nat} {q i : Nat} {x : Value} [n : InL q L] [h : Ex W0 L W] : Ex W0 L (W.setCell ⟨q, i, none⟩ x) :=
  ⟨by rw [World.size_setCell]; exact h.size, fun k hk hL => by
    simp only [World.setCell, Array.getElem?_modify]
    rw [if_neg (fun e => hL (by rw [← e]; exact n.out))]; exact h.block k hk hL⟩
instance (priority := low) Ex.st2 {W0 W : World} {L : List Nat} {q i : Nat} {x : Value} [n : Gg W0 q] [h : Ex W0 L W] : Ex W0 L (W.setCell ⟨q, i, none⟩ x) :=
  ⟨by rw [World.size_setCell]; exact h.size, fun k hk hL => by
    simp only [World.setCell, Array.getElem?_modify]
    rw [if_neg (fun e => by have := n.out; omega)]; exact h.block k hk hL⟩
instance (priority := low) Bx.ex {W0 W : World} {L : List Nat} {b : Nat} {t : TypeId} {l : List Value} [e : Ex1 W0 L W] [n : NoL b L] [h : Bx W0 b t l] : Bx W b t l := ⟨by
  rw [e.out.block b h.lt n.out]; exact h.out⟩
/-- A region that draws its order: what was there stays as it was, but for the blocks of L. -/
theorem region_cls {P : Program} {ops : Array Oper} {Q : Exit → Act → World → Prop} {id : Nat} {a : Act} {w : World} (hm : P.follows .mixedOrders = true) (L : List Nat)
    (h : Ex w L w.drew → wpAnyH P .any ops Q (Ex w L) ops.size (Array.replicate ops.size false) a w.drew) : (Code.region id ops true).wp P Q a w :=
  wp_region_held_drew (S := Ex w L) hm Ex.dr h
theorem Rd.soft {W : World} {v : Value} {l : List Nat} {q i : Nat} {x : Value} (h : Rd W v l) (hs : SoftB W q) : Rd (W.setCell ⟨q, i, none⟩ x) v l := by
  obtain ⟨a, cap, rfl, h1, h2, h3, h4⟩ := h
  refine ⟨a, cap, rfl, h1, h2, h3, fun h0 => ?_⟩
  obtain ⟨b, off, rfl, hcell⟩ := h4 h0
  refine ⟨b, off, rfl, fun j hj => ?_⟩
  rw [World.cell?_setCell_other _ _ _ _ (fun e => ?_)]
  · exact hcell j hj
  · have hc := hcell j hj
    injection e with e1 e2
    subst e1
    have := hs.no hc
    simp [isDigit32] at this
theorem Nn.soft {W : World} {v : Value} {n k : Nat} {q i : Nat} {x : Value} (h : Nn W v n k) (hs : SoftB W q) : Nn (W.setCell ⟨q, i, none⟩ x) v n k := ⟨h.1.soft hs, h.2⟩
theorem Rr.soft {W : World} {v : Value} {n k : Nat} {q i : Nat} {x : Value} (h : Rr W v n k) (hs : SoftB W q) : Rr (W.setCell ⟨q, i, none⟩ x) v n k := by
  obtain ⟨l, h1, h2⟩ := h
  exact ⟨l, h1.soft hs, h2⟩
def Za (W : World) (v : Value) (z : Int) (k : Nat) : Prop := ∃ g a l c, v = .agg #[.bool g, .slice a l c] ∧ Zz W g (.slice a l c) z k
def Ia (W : World) (v : Value) (z : Int) (k : Nat) : Prop := ∃ g a l c, v = .agg #[.bool g, .slice a l c] ∧ Zi W g (.slice a l c) z k
theorem Za.map {W W2 : World} {v : Value} {z : Int} {k : Nat} (h : Za W v z k) (f : ∀ g s, Zz W g s z k → Zz W2 g s z k) : Za W2 v z k := by
  obtain ⟨g, a, l, c, e, h⟩ := h; exact ⟨g, a, l, c, e, f _ _ h⟩
theorem Ia.map {W W2 : World} {v : Value} {z : Int} {k : Nat} (h : Ia W v z k) (f : ∀ g s, Zi W g s z k → Zi W2 g s z k) : Ia W2 v z k := by
  obtain ⟨g, a, l, c, e, h⟩ := h; exact ⟨g, a, l, c, e, f _ _ h⟩
/-- The slice v is the number n in normal form, of at most k digits. -/
class CN (W : World) (v : Value) (n : outParam Nat) (k : outParam Nat) : Prop where out : Nn W v n k
instance CN.al {W : World} {v : Value} {n : Nat} {k : Nat} {o : Obj} [h : CN W v n k] : CN (W.alloc o) v n k := ⟨h.out.keep (blw_one _ _)⟩
instance CN.dr {W : World} {v : Value} {n : Nat} {k : Nat} [h : CN W v n k] : CN W.drew v n k := ⟨h.out.keep (blw_drew (Below.refl _ _))⟩
instance CN.drN {W : World} {v : Value} {n : Nat} {k : Nat} {j : Nat} [h : CN W v n k] : CN (W.drewN j) v n k := ⟨h.out.keep (blw_drewN (Below.refl _ _) _)⟩
instance CN.kp {W W2 : World} {v : Value} {n : Nat} {k : Nat} [b : Kp1 W W2] [h : CN W v n k] : CN W2 v n k := ⟨h.out.keep (b.out)⟩
instance CN.tp {W W2 : World} {v : Value} {n : Nat} {k : Nat} {g : Nat} [b : Tp1 W W2 g] [h : CN W v n k] : CN W2 v n k := ⟨Nn.tp2 b.gb b.tp h.out⟩
instance CN.st {W : World} {v : Value} {n : Nat} {k : Nat} {qb ib : Nat} {xv : Value} [b : SoftB W qb] [h : CN W v n k] : CN (W.setCell ⟨qb, ib, none⟩ xv) v n k := ⟨h.out.soft b⟩
/-- The slice v reads as the number n, in at most k digits. -/
class CR (W : World) (v : Value) (n : outParam Nat) (k : outParam Nat) : Prop where out : Rr W v n k
instance CR.al {W : World} {v : Value} {n : Nat} {k : Nat} {o : Obj} [h : CR W v n k] : CR (W.alloc o) v n k := ⟨h.out.keep (blw_one _ _)⟩
instance CR.dr {W : World} {v : Value} {n : Nat} {k : Nat} [h : CR W v n k] : CR W.drew v n k := ⟨h.out.keep (blw_drew (Below.refl _ _))⟩
instance CR.drN {W : World} {v : Value} {n : Nat} {k : Nat} {j : Nat} [h : CR W v n k] : CR (W.drewN j) v n k := ⟨h.out.keep (blw_drewN (Below.refl _ _) _)⟩
instance CR.kp {W W2 : World} {v : Value} {n : Nat} {k : Nat} [b : Kp1 W W2] [h : CR W v n k] : CR W2 v n k := ⟨h.out.keep (b.out)⟩
instance CR.tp {W W2 : World} {v : Value} {n : Nat} {k : Nat} {g : Nat} [b : Tp1 W W2 g] [h : CR W v n k] : CR W2 v n k := ⟨Rr.tp2 b.gb b.tp h.out⟩
instance CR.st {W : World} {v : Value} {n : Nat} {k : Nat} {qb ib : Nat} {xv : Value} [b : SoftB W qb] [h : CR W v n k] : CR (W.setCell ⟨qb, ib, none⟩ xv) v n k := ⟨h.out.soft b⟩
/-- The struct v is the integer z in normal form. -/
class CZ (W : World) (v : Value) (z : outParam Int) (k : outParam Nat) : Prop where out : Za W v z k
instance CZ.al {W : World} {v : Value} {z : Int} {k : Nat} {o : Obj} [h : CZ W v z k] : CZ (W.alloc o) v z k := ⟨h.out.map fun _ _ h => h.keep (blw_one _ _)⟩
instance CZ.dr {W : World} {v : Value} {z : Int} {k : Nat} [h : CZ W v z k] : CZ W.drew v z k := ⟨h.out.map fun _ _ h => h.keep (blw_drew (Below.refl _ _))⟩
instance CZ.drN {W : World} {v : Value} {z : Int} {k : Nat} {j : Nat} [h : CZ W v z k] : CZ (W.drewN j) v z k := ⟨h.out.map fun _ _ h => h.keep (blw_drewN (Below.refl _ _) _)⟩
instance CZ.kp {W W2 : World} {v : Value} {z : Int} {k : Nat} [b : Kp1 W W2] [h : CZ W v z k] : CZ W2 v z k := ⟨h.out.map fun _ _ h => h.keep (b.out)⟩
instance CZ.tp {W W2 : World} {v : Value} {z : Int} {k : Nat} {g : Nat} [b : Tp1 W W2 g] [h : CZ W v z k] : CZ W2 v z k := ⟨h.out.map fun _ _ h => Zz.tp2 b.gb b.tp h⟩
instance CZ.st {W : World} {v : Value} {z : Int} {k : Nat} {qb ib : Nat} {xv : Value} [b : SoftB W qb] [h : CZ W v z k] : CZ (W.setCell ⟨qb, ib, none⟩ xv) v z k := ⟨h.out.map fun _ _ h => ⟨h.1, h.2.soft b⟩⟩
/-- The struct v reads as the integer z. -/
class CI (W : World) (v : Value) (z : outParam Int) (k : outParam Nat) : Prop where out : Ia W v z k
instance CI.al {W : World} {v : Value} {z : Int} {k : Nat} {o : Obj} [h : CI W v z k] : CI (W.alloc o) v z k := ⟨h.out.map fun _ _ h => h.keep (blw_one _ _)⟩
instance CI.dr {W : World} {v : Value} {z : Int} {k : Nat} [h : CI W v z k] : CI W.drew v z k := ⟨h.out.map fun _ _ h => h.keep (blw_drew (Below.refl _ _))⟩
instance CI.drN {W : World} {v : Value} {z : Int} {k : Nat} {j : Nat} [h : CI W v z k] : CI (W.drewN j) v z k := ⟨h.out.map fun _ _ h => h.keep (blw_drewN (Below.refl _ _) _)⟩
instance CI.kp {W W2 : World} {v : Value} {z : Int} {k : Nat} [b : Kp1 W W2] [h : CI W v z k] : CI W2 v z k := ⟨h.out.map fun _ _ h => h.keep (b.out)⟩
instance CI.tp {W W2 : World} {v : Value} {z : Int} {k : Nat} {g : Nat} [b : Tp1 W W2 g] [h : CI W v z k] : CI W2 v z k := ⟨h.out.map fun _ _ h => Zi.tp2 b.gb b.tp h⟩
instance CI.st {W : World} {v : Value} {z : Int} {k : Nat} {qb ib : Nat} {xv : Value} [b : SoftB W qb] [h : CI W v z k] : CI (W.setCell ⟨qb, ib, none⟩ xv) v z k := ⟨h.out.map fun _ _ ⟨n, h1, h2⟩ => ⟨n, h1.soft b, h2⟩⟩
instance (priority := low) CR.of {W : World} {v : Value} {n k : Nat} [h : CN W v n k] : CR W v n k := ⟨h.out.rr⟩
instance (priority := low) CI.of {W : World} {v : Value} {z : Int} {k : Nat} [h : CZ W v z k] : CI W v z k := ⟨by
  obtain ⟨g, a, l, c, e, h⟩ := h.out
  exact ⟨g, a, l, c, e, h.zi⟩⟩
theorem Zz.pos {w : World} {s : Value} {n k : Nat} (h : Nn w s n k) : Zz w false s n k := ⟨by simp, by simpa using h⟩
instance CZ.pos {W : World} {a : Option Addr} {l c n k : Nat} [h : CN W (.slice a l c) n k] : CZ W (.agg #[.bool false, .slice a l c]) (n : Int) k := ⟨⟨_, _, _, _, rfl, Zz.pos h.out⟩⟩
instance (priority := low) CI.sg {W : World} {g : Bool} {a : Option Addr} {l c n k : Nat} [h : CR W (.slice a l c) n k] : CI W (.agg #[.bool g, .slice a l c]) (sgn g n) k := ⟨⟨_, _, _, _, rfl, ⟨n, h.out, rfl⟩⟩⟩
instance CN.nil {W : World} : CN W (.slice none 0 0) 0 0 := ⟨Nn.nil W 0⟩
instance CZ.zero {W : World} : CZ W (.agg #[.bool false, .slice none 0 0]) 0 0 := ⟨⟨_, _, _, _, rfl, Zz.zero W 0⟩⟩
instance CN.one {W : World} {b : Nat} [h : Sz W b] : CN (W.alloc (.cells #[.int .u32 1] 157)) (.slice (some ⟨b, 0, none⟩) 1 1) 1 1 := ⟨by rw [← h.out]; exact Nn.lit1⟩
/-- The end of a walk: the struct that lies in the result's box is returned. -/
theorem ret_bx {P : Program} {fn : Func} {R : Ending → World → Prop} {a : Act} {W : World} {b : Nat} {p : Tmp} {ty t : TypeId} {d : TypeDesc} {l l' : List Value} [hb : Bx W b t l] (hr : fn.results = #[.cell p ty])
    (hu : P.underlying ty = some d) (hd : (match d with | .struct _ | .array _ _ => true | _ => false) = true) (hi : (P.info? ty).map (·.size) = some l.length)
    (hp : a.tmps.getD p undef = .pointer (some ⟨b, 0, none⟩)) (hdf : a.defers = []) (hl : l = l') (hR : R (.returned (.agg l'.toArray)) W) : bodyPost P fn R .ret a W := by
  subst hl
  refine ret_c hr hp (loadVar_at W b ty l d hu hd hi (fun j hj => ?_)) hdf hR
  rw [cell_bx, List.getElem?_eq_getElem hj]
end Go.Proofs.YtlameeijogdckaaGreat
