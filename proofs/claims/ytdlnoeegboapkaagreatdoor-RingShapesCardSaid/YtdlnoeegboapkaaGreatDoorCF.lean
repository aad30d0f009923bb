/-
  Texts of this claim, joined: Cls, Tail, Err, Sen, Row, NumGcd, Int3, Con0.
-/
import Derived.Test.YtdlnoeegboapkaaGreatDoorCE
import Derived.Deep.RegionHeld3
import Derived.Test.YtdlnoeegboapkaaGreatDoorProg
import Derived.WalkKit
import Derived.Lib.Hide
import Derived.LaidEql
import Derived.Stop.Asserts
import Derived.RowKitTokens
import Derived.Laws.AppendOwn
namespace Go.Proofs.YtdlnoeegboapkaaGreatDoor
open Go.RowKit
set_option maxHeartbeats 40000000
set_option maxRecDepth 100000
set_option synthInstance.maxHeartbeats 1000000
set_option synthInstance.maxSize 100000
section
class Kp1 (W : outParam World) (W2 : World) : Prop where out : Below W.heap.size W W2
class Tp1 (W : outParam World) (W2 : World) (g : outParam Nat) : Prop where
  gb : W.grownBy W2 (some g)
  tp : TapeAt W g
class Sz (W : World) (b : outParam Nat) : Prop where out : W.heap.size = b
instance (priority := low) Sz.base {W : World} : Sz W W.heap.size := ⟨rfl⟩
instance Sz.al {W : World} {b : Nat} {o : Obj} [h : Sz W b] : Sz (W.alloc o) (b + 1) := ⟨by rw [World.size_alloc, h.out]⟩
instance Sz.st {W : World} {b : Nat} {p : Addr} {x : Value} [h : Sz W b] : Sz (W.setCell p x) b := ⟨by rw [World.size_setCell, h.out]⟩
class Ndg (v : Value) : Prop where out : isDigit32 v = false
instance {b : Bool} : Ndg (.bool b) := ⟨rfl⟩
instance {a : Option Addr} {l c : Nat} : Ndg (.slice a l c) := ⟨rfl⟩
instance {a : Option Addr} : Ndg (.pointer a) := ⟨rfl⟩
instance {n : Int} : Ndg (.int .i64 n) := ⟨rfl⟩
instance {n : Int} : Ndg (.int .u64 n) := ⟨rfl⟩
class Ndl (l : List Value) : Prop where out : ∀ u ∈ l, isDigit32 u = false
instance Ndl.nil : Ndl [] := ⟨fun _ h => nomatch h⟩
instance Ndl.cons {v : Value} {l : List Value} [h1 : Ndg v] [h2 : Ndl l] : Ndl (v :: l) := ⟨fun u h => by
  rcases List.mem_cons.1 h with rfl | h
  · exact h1.out
  · exact h2.out _ h⟩
instance Ndl.set {v : Value} {l : List Value} {i : Nat} [h1 : Ndg v] [h2 : Ndl l] : Ndl (l.set i v) := ⟨fun u h => by
  rcases List.mem_or_eq_of_mem_set h with h | rfl
  · exact h2.out _ h
  · exact h1.out⟩
class BoxT (t : TypeId) : Prop where
  tape : t ≠ 108
  pair : t ≠ 300
instance : BoxT 27 := by constructor <;> decide
instance : BoxT 29 := by constructor <;> decide
instance : BoxT 31 := by constructor <;> decide
instance : BoxT 156 := by constructor <;> decide
instance : BoxT 43 := by constructor <;> decide
instance : BoxT 45 := by constructor <;> decide
instance : BoxT 47 := by constructor <;> decide
instance : BoxT 163 := by constructor <;> decide
instance : BoxT 147 := by constructor <;> decide
instance : BoxT 152 := by constructor <;> decide
instance : BoxT 178 := by constructor <;> decide
instance : BoxT 180 := by constructor <;> decide
instance : BoxT 182 := by constructor <;> decide
instance : BoxT 158 := by constructor <;> decide
instance : BoxT 160 := by constructor <;> decide
instance : BoxT 4 := by constructor <;> decide
instance : BoxT 3 := by constructor <;> decide
instance : BoxT 2 := by constructor <;> decide
instance : BoxT 205 := by constructor <;> decide
instance : BoxT 165 := by constructor <;> decide
instance : BoxT 167 := by constructor <;> decide
instance : BoxT 25 := by constructor <;> decide
instance : BoxT 41 := by constructor <;> decide
instance : BoxT 24 := by constructor <;> decide
instance : BoxT 36 := by constructor <;> decide
instance : BoxT 9 := by constructor <;> decide
class LtN (a b : Nat) : Prop where out : a < b
class NeN (a b : Nat) : Prop where out : a ≠ b
instance LtN.one {a : Nat} : LtN a (a + 1) := ⟨Nat.lt_succ_self a⟩
instance (priority := low) LtN.step {a b : Nat} [h : LtN a b] : LtN a (b + 1) := ⟨Nat.lt_succ_of_lt h.out⟩
instance NeN.l {a b : Nat} [h : LtN a b] : NeN a b := ⟨Nat.ne_of_lt h.out⟩
instance NeN.r {a b : Nat} [h : LtN b a] : NeN a b := ⟨Nat.ne_of_gt h.out⟩
theorem heap_al_lt {W : World} {o : Obj} {b : Nat} (h : b < W.heap.size) : (W.alloc o).heap[b]? = W.heap[b]? := by
  simp only [World.alloc, Array.getElem?_push]; rw [if_neg (by omega)]
theorem heap_al_new {W : World} {o : Obj} : (W.alloc o).heap[W.heap.size]? = some o := by
  show (W.heap.push o)[W.heap.size]? = some o
  simp
class Bx (W : World) (b : Nat) (t : outParam TypeId) (l : outParam (List Value)) : Prop where out : W.heap[b]? = some (.cells l.toArray t (0, 0))
theorem Bx.lt {W : World} {b : Nat} {t : TypeId} {l : List Value} (h : Bx W b t l) : b < W.heap.size := heap_lt h.out
instance Bx.new {W : World} {b : Nat} {t : TypeId} {l : List Value} [h : Sz W b] : Bx (W.alloc (.cells l.toArray t (0, 0))) b t l := ⟨by rw [← h.out]; exact heap_al_new⟩
instance (priority := low) Bx.al {W : World} {b : Nat} {t : TypeId} {l : List Value} {o : Obj} [h : Bx W b t l] : Bx (W.alloc o) b t l := ⟨by rw [heap_al_lt h.lt]; exact h.out⟩
instance Bx.dr {W : World} {b : Nat} {t : TypeId} {l : List Value} [h : Bx W b t l] : Bx W.drew b t l := ⟨h.out⟩
instance Bx.drN {W : World} {b j : Nat} {t : TypeId} {l : List Value} [h : Bx W b t l] : Bx (W.drewN j) b t l := ⟨h.out⟩
instance Bx.kp {W W2 : World} {b : Nat} {t : TypeId} {l : List Value} [k : Kp1 W W2] [h : Bx W b t l] : Bx W2 b t l := ⟨by rw [k.out.block b h.lt]; exact h.out⟩
instance Bx.tp {W W2 : World} {b g : Nat} {t : TypeId} {l : List Value} [k : Tp1 W W2 g] [h : Bx W b t l] [ht : BoxT t] : Bx W2 b t l := ⟨by
  rw [k.gb.block b h.lt ?_]
  · exact h.out
  · intro e
    injection e with e
    subst e; obtain ⟨a, n, c, at_, zs, hh, _⟩ := k.tp; rw [h.out] at hh
    injection hh with hh
    injection hh with _ h2
    exact ht.tape h2⟩
instance (priority := low) Bx.setO {W : World} {b q i : Nat} {x : Value} {t : TypeId} {l : List Value} [h : Bx W b t l] [n : NeN q b] : Bx (W.setCell ⟨q, i, none⟩ x) b t l := ⟨by
  simp only [World.setCell, Array.getElem?_modify]
  rw [if_neg n.out]; exact h.out⟩
instance Bx.setS {W : World} {b i : Nat} {x : Value} {t : TypeId} {l : List Value} [h : Bx W b t l] : Bx (W.setCell ⟨b, i, none⟩ x) b t (l.set i x) := ⟨by
  simp only [World.setCell, Array.getElem?_modify, if_pos]
  rw [h.out]; simp⟩
instance LtN.bx {W : World} {b : Nat} {t : TypeId} {l : List Value} [h : Bx W b t l] : LtN b W.heap.size := ⟨h.lt⟩
@[go_sem] theorem cell_bx {W : World} {b i : Nat} {t : TypeId} {l : List Value} [h : Bx W b t l] : W.cell? ⟨b, i, none⟩ = l[i]? := by
  simp [World.cell?, h.out]
@[go_sem] theorem frozen_bx {W : World} {b i : Nat} {t : TypeId} {l : List Value} [h : Bx W b t l] : W.frozen? ⟨b, i, none⟩ = false := by
  simp [World.frozen?, h.out]
class SoftB (W : World) (b : Nat) : Prop where out : ∃ t l, W.heap[b]? = some (.cells (List.toArray l) t (0, 0)) ∧ BoxT t ∧ ∀ u ∈ l, isDigit32 u = false
instance SoftB.mk' {W : World} {b : Nat} {t : TypeId} {l : List Value} [h : Bx W b t l] [ht : BoxT t] [hl : Ndl l] : SoftB W b := ⟨t, l, h.out, ht, hl.out⟩
theorem SoftB.no {W : World} {q i : Nat} {u : Value} (h : SoftB W q) (hc : W.cell? ⟨q, i, none⟩ = some u) : isDigit32 u = false := by
  obtain ⟨t, l, h1, _, h2⟩ := h.out; simp only [World.cell?, h1] at hc
  have hc : l[i]? = some u := by simpa using hc
  exact h2 u (List.mem_of_getElem? hc)
class Kp (w W : World) : Prop where out : Below w.heap.size w W
class Ge (w : World) (b : Nat) : Prop where out : w.heap.size ≤ b
instance Ge.base {w : World} : Ge w w.heap.size := ⟨Nat.le_refl _⟩
instance Ge.step {w : World} {b : Nat} [h : Ge w b] : Ge w (b + 1) := ⟨Nat.le_succ_of_le h.out⟩
instance (priority := low) Ge.sz {w : World} {b : Nat} [h : Sz w b] : Ge w b := ⟨Nat.le_of_eq h.out⟩
instance (priority := low) Ge.kp {w W : World} [h : Kp w W] : Ge w W.heap.size := ⟨h.out.size⟩
instance Kp.refl {w : World} : Kp w w := ⟨Below.refl _ _⟩
instance Kp.al {w W : World} {o : Obj} [h : Kp w W] : Kp w (W.alloc o) := ⟨blw_alloc h.out o⟩
instance Kp.dr {w W : World} [h : Kp w W] : Kp w W.drew := ⟨blw_drew h.out⟩
instance Kp.drN {w W : World} {j : Nat} [h : Kp w W] : Kp w (W.drewN j) := ⟨blw_drewN h.out j⟩
instance Kp.st {w W : World} {q i : Nat} {x : Value} [h : Kp w W] [g : Ge w q] : Kp w (W.setCell ⟨q, i, none⟩ x) := ⟨blw_set x h.out g.out⟩
instance (priority := low) Kp.kp {w W W2 : World} [k : Kp1 W W2] [h : Kp w W] : Kp w W2 := ⟨blw_trans h.out k.out⟩
instance (priority := low) Kp.tp {w W W2 : World} {g : Nat} [k : Tp1 W W2 g] [h : Kp w W] [n : Ge w g] : Kp w W2 := ⟨blw_tp h.out k.gb n.out⟩
class Ct (W : World) (g : Nat) : Prop where out : TapeAt W g
instance Ct.al {W : World} {g : Nat} {o : Obj} [h : Ct W g] : Ct (W.alloc o) g := ⟨h.out.al⟩
instance Ct.dr {W : World} {g : Nat} [h : Ct W g] : Ct W.drew g := ⟨h.out.dr⟩
instance Ct.kp {W W2 : World} {g : Nat} [k : Kp1 W W2] [h : Ct W g] : Ct W2 g := ⟨h.out.keep k.out⟩
instance Ct.st {W : World} {g q i : Nat} {x : Value} [h : Ct W g] [n : LtN g q] : Ct (W.setCell ⟨q, i, none⟩ x) g := ⟨h.out.set2 n.out⟩
instance LtN.ct {W : World} {g : Nat} [h : Ct W g] : LtN g W.heap.size := ⟨h.out.lt⟩
class Gb (w W : World) (g : Nat) : Prop where out : w.grownBy W (some g)
instance Gb.refl {w : World} {g : Nat} : Gb w w g := ⟨gb_refl _ _⟩
instance Gb.al {w W : World} {g : Nat} {o : Obj} [h : Gb w W g] : Gb w (W.alloc o) g := ⟨gb_al h.out⟩
instance Gb.dr {w W : World} {g : Nat} [h : Gb w W g] : Gb w W.drew g := ⟨gb_dr h.out⟩
instance (priority := low) Gb.kp {w W W2 : World} {g : Nat} [k : Kp1 W W2] [h : Gb w W g] : Gb w W2 g := ⟨gb_keep2 k.out h.out⟩
instance (priority := low) Gb.tp {w W W2 : World} {g : Nat} [k : Tp1 W W2 g] [h : Gb w W g] : Gb w W2 g := ⟨gb_tp2 k.gb h.out⟩
class Kz (w W : World) : Prop where out : w.heap.size ≤ W.heap.size
instance Kz.refl {w : World} : Kz w w := ⟨Nat.le_refl _⟩
instance Kz.al {w W : World} {o : Obj} [h : Kz w W] : Kz w (W.alloc o) := ⟨by rw [World.size_alloc]; exact Nat.le_succ_of_le h.out⟩
instance Kz.dr {w W : World} [h : Kz w W] : Kz w W.drew := ⟨h.out⟩
instance (priority := low) Kz.kp {w W W2 : World} [k : Kp1 W W2] [h : Kz w W] : Kz w W2 := ⟨Nat.le_trans h.out k.out.size⟩
instance (priority := low) Kz.tp {w W W2 : World} {g : Nat} [k : Tp1 W W2 g] [h : Kz w W] : Kz w W2 := ⟨Nat.le_trans h.out k.gb.size⟩
class Gg (w : World) (b : Nat) : Prop where out : w.heap.size ≤ b
instance Gg.base {w : World} : Gg w w.heap.size := ⟨Nat.le_refl _⟩
instance (priority := low) Gg.sz {w : World} {b : Nat} [h : Sz w b] : Gg w b := ⟨Nat.le_of_eq h.out⟩
instance (priority := low) Gg.gb {w W : World} [h : Kz w W] : Gg w W.heap.size := ⟨h.out⟩
instance Gb.st {w W : World} {g q i : Nat} {x : Value} [h : Gb w W g] [n : Gg w q] : Gb w (W.setCell ⟨q, i, none⟩ x) g := ⟨gb_set n.out h.out⟩
class Ex (W0 : World) (L : List Nat) (W : World) : Prop where
  size : W0.heap.size ≤ W.heap.size
  block : ∀ k, k < W0.heap.size → k ∉ L → W.heap[k]? = W0.heap[k]?
class Ex1 (W0 : outParam World) (L : outParam (List Nat)) (W : World) : Prop where out : Ex W0 L W
class InL (q : Nat) (L : List Nat) : Prop where out : q ∈ L
instance InL.hd {q : Nat} {L : List Nat} : InL q (q :: L) := ⟨List.mem_cons_self ..⟩
instance (priority := low) InL.tl {q x : Nat} {L : List Nat} [h : InL q L] : InL q (x :: L) := ⟨List.mem_cons_of_mem _ h.out⟩
class NoL (q : Nat) (L : List Nat) : Prop where out : q ∉ L
instance NoL.nil {q : Nat} : NoL q [] := ⟨fun h => nomatch h⟩
instance NoL.cons {q x : Nat} {L : List Nat} [h1 : NeN q x] [h2 : NoL q L] : NoL q (x :: L) := ⟨fun h => (List.mem_cons.1 h).elim h1.out h2.out⟩
instance Ex.refl {W : World} {L : List Nat} : Ex W L W := ⟨Nat.le_refl _, fun _ _ _ => rfl⟩
instance Ex.dr {W0 W : World} {L : List Nat} [h : Ex W0 L W] : Ex W0 L W.drew := ⟨h.size, h.block⟩
instance Ex.al {W0 W : World} {L : List Nat} {o : Obj} [h : Ex W0 L W] : Ex W0 L (W.alloc o) :=
  ⟨by rw [World.size_alloc]; exact Nat.le_succ_of_le h.size, fun k hk hL => by rw [heap_al_lt (Nat.lt_of_lt_of_le hk h.size)]; exact h.block k hk hL⟩
instance (priority := low) Ex.kp {W0 W W2 : World} {L : List Nat} [k : Kp1 W W2] [h : Ex W0 L W] : Ex W0 L W2 :=
  ⟨Nat.le_trans h.size k.out.size, fun j hj hL => by rw [k.out.block j (Nat.lt_of_lt_of_le hj h.size)]; exact h.block j hj hL⟩
instance Ex.st {W0 W : World} {L : List Nat} {q i : Nat} {x : Value} [n : InL q L] [h : Ex W0 L W] : Ex W0 L (W.setCell ⟨q, i, none⟩ x) :=
  ⟨by rw [World.size_setCell]; exact h.size, fun k hk hL => by
    simp only [World.setCell, Array.getElem?_modify]
    rw [if_neg (fun e => hL (by rw [← e]; exact n.out))]; exact h.block k hk hL⟩
instance (priority := low) Ex.st2 {W0 W : World} {L : List Nat} {q i : Nat} {x : Value} [n : Gg W0 q] [h : Ex W0 L W] : Ex W0 L (W.setCell ⟨q, i, none⟩ x) :=
  ⟨by rw [World.size_setCell]; exact h.size, fun k hk hL => by
    simp only [World.setCell, Array.getElem?_modify]
    rw [if_neg (fun e => by have := n.out; omega)]; exact h.block k hk hL⟩
instance (priority := low) Bx.ex {W0 W : World} {L : List Nat} {b : Nat} {t : TypeId} {l : List Value} [e : Ex1 W0 L W] [n : NoL b L] [h : Bx W0 b t l] : Bx W b t l := ⟨by
  rw [e.out.block b h.lt n.out]; exact h.out⟩
theorem Rd.soft {W : World} {v : Value} {l : List Nat} {q i : Nat} {x : Value} (h : Rd W v l) (hs : SoftB W q) : Rd (W.setCell ⟨q, i, none⟩ x) v l := by
  obtain ⟨a, cap, rfl, h1, h2, h3, h4⟩ := h
  refine ⟨a, cap, rfl, h1, h2, h3, fun h0 => ?_⟩
  obtain ⟨b, off, rfl, hcell⟩ := h4 h0
  refine ⟨b, off, rfl, fun j hj => ?_⟩
  rw [World.cell?_setCell_other _ _ _ _ (fun e => ?_)]
  · exact hcell j hj
  · have hc := hcell j hj
    injection e with e1 e2
    subst e1
    have := hs.no hc
    simp [isDigit32] at this
theorem Nn.soft {W : World} {v : Value} {n k : Nat} {q i : Nat} {x : Value} (h : Nn W v n k) (hs : SoftB W q) : Nn (W.setCell ⟨q, i, none⟩ x) v n k := ⟨h.1.soft hs, h.2⟩
theorem Rr.soft {W : World} {v : Value} {n k : Nat} {q i : Nat} {x : Value} (h : Rr W v n k) (hs : SoftB W q) : Rr (W.setCell ⟨q, i, none⟩ x) v n k := by
  obtain ⟨l, h1, h2⟩ := h; exact ⟨l, h1.soft hs, h2⟩
def Za (W : World) (v : Value) (z : Int) (k : Nat) : Prop := ∃ g a l c, v = .agg #[.bool g, .slice a l c] ∧ Zz W g (.slice a l c) z k
def Ia (W : World) (v : Value) (z : Int) (k : Nat) : Prop := ∃ g a l c, v = .agg #[.bool g, .slice a l c] ∧ Zi W g (.slice a l c) z k
theorem Za.map {W W2 : World} {v : Value} {z : Int} {k : Nat} (h : Za W v z k) (f : ∀ g s, Zz W g s z k → Zz W2 g s z k) : Za W2 v z k := by
  obtain ⟨g, a, l, c, e, h⟩ := h; exact ⟨g, a, l, c, e, f _ _ h⟩
theorem Ia.map {W W2 : World} {v : Value} {z : Int} {k : Nat} (h : Ia W v z k) (f : ∀ g s, Zi W g s z k → Zi W2 g s z k) : Ia W2 v z k := by
  obtain ⟨g, a, l, c, e, h⟩ := h; exact ⟨g, a, l, c, e, f _ _ h⟩
class CN (W : World) (v : Value) (n : outParam Nat) (k : outParam Nat) : Prop where out : Nn W v n k
instance CN.al {W : World} {v : Value} {n : Nat} {k : Nat} {o : Obj} [h : CN W v n k] : CN (W.alloc o) v n k := ⟨h.out.keep (blw_one _ _)⟩
instance CN.dr {W : World} {v : Value} {n : Nat} {k : Nat} [h : CN W v n k] : CN W.drew v n k := ⟨h.out.keep (blw_drew (Below.refl _ _))⟩
instance CN.kp {W W2 : World} {v : Value} {n : Nat} {k : Nat} [b : Kp1 W W2] [h : CN W v n k] : CN W2 v n k := ⟨h.out.keep (b.out)⟩
instance CN.st {W : World} {v : Value} {n : Nat} {k : Nat} {qb ib : Nat} {xv : Value} [b : SoftB W qb] [h : CN W v n k] : CN (W.setCell ⟨qb, ib, none⟩ xv) v n k := ⟨h.out.soft b⟩
class CR (W : World) (v : Value) (n : outParam Nat) (k : outParam Nat) : Prop where out : Rr W v n k
instance CR.al {W : World} {v : Value} {n : Nat} {k : Nat} {o : Obj} [h : CR W v n k] : CR (W.alloc o) v n k := ⟨h.out.keep (blw_one _ _)⟩
instance CR.dr {W : World} {v : Value} {n : Nat} {k : Nat} [h : CR W v n k] : CR W.drew v n k := ⟨h.out.keep (blw_drew (Below.refl _ _))⟩
instance CR.kp {W W2 : World} {v : Value} {n : Nat} {k : Nat} [b : Kp1 W W2] [h : CR W v n k] : CR W2 v n k := ⟨h.out.keep (b.out)⟩
instance CR.st {W : World} {v : Value} {n : Nat} {k : Nat} {qb ib : Nat} {xv : Value} [b : SoftB W qb] [h : CR W v n k] : CR (W.setCell ⟨qb, ib, none⟩ xv) v n k := ⟨h.out.soft b⟩
class CZ (W : World) (v : Value) (z : outParam Int) (k : outParam Nat) : Prop where out : Za W v z k
instance CZ.al {W : World} {v : Value} {z : Int} {k : Nat} {o : Obj} [h : CZ W v z k] : CZ (W.alloc o) v z k := ⟨h.out.map fun _ _ h => h.keep (blw_one _ _)⟩
instance CZ.dr {W : World} {v : Value} {z : Int} {k : Nat} [h : CZ W v z k] : CZ W.drew v z k := ⟨h.out.map fun _ _ h => h.keep (blw_drew (Below.refl _ _))⟩
instance CZ.kp {W W2 : World} {v : Value} {z : Int} {k : Nat} [b : Kp1 W W2] [h : CZ W v z k] : CZ W2 v z k := ⟨h.out.map fun _ _ h => h.keep (b.out)⟩
instance CZ.st {W : World} {v : Value} {z : Int} {k : Nat} {qb ib : Nat} {xv : Value} [b : SoftB W qb] [h : CZ W v z k] : CZ (W.setCell ⟨qb, ib, none⟩ xv) v z k := ⟨h.out.map fun _ _ h => ⟨h.1, h.2.soft b⟩⟩
class CI (W : World) (v : Value) (z : outParam Int) (k : outParam Nat) : Prop where out : Ia W v z k
instance CI.al {W : World} {v : Value} {z : Int} {k : Nat} {o : Obj} [h : CI W v z k] : CI (W.alloc o) v z k := ⟨h.out.map fun _ _ h => h.keep (blw_one _ _)⟩
instance CI.dr {W : World} {v : Value} {z : Int} {k : Nat} [h : CI W v z k] : CI W.drew v z k := ⟨h.out.map fun _ _ h => h.keep (blw_drew (Below.refl _ _))⟩
instance CI.kp {W W2 : World} {v : Value} {z : Int} {k : Nat} [b : Kp1 W W2] [h : CI W v z k] : CI W2 v z k := ⟨h.out.map fun _ _ h => h.keep (b.out)⟩
instance CI.st {W : World} {v : Value} {z : Int} {k : Nat} {qb ib : Nat} {xv : Value} [b : SoftB W qb] [h : CI W v z k] : CI (W.setCell ⟨qb, ib, none⟩ xv) v z k := ⟨h.out.map fun _ _ ⟨n, h1, h2⟩ => ⟨n, h1.soft b, h2⟩⟩
instance (priority := low) CR.of {W : World} {v : Value} {n k : Nat} [h : CN W v n k] : CR W v n k := ⟨h.out.rr⟩
instance (priority := low) CI.of {W : World} {v : Value} {z : Int} {k : Nat} [h : CZ W v z k] : CI W v z k := ⟨by
  obtain ⟨g, a, l, c, e, h⟩ := h.out
  exact ⟨g, a, l, c, e, h.zi⟩⟩
instance (priority := low) CI.sg {W : World} {g : Bool} {a : Option Addr} {l c n k : Nat} [h : CR W (.slice a l c) n k] : CI W (.agg #[.bool g, .slice a l c]) (sgn g n) k := ⟨⟨_, _, _, _, rfl, ⟨n, h.out, rfl⟩⟩⟩
instance CN.nil {W : World} : CN W (.slice none 0 0) 0 0 := ⟨Nn.nil W 0⟩
instance CZ.zero {W : World} : CZ W (.agg #[.bool false, .slice none 0 0]) 0 0 := ⟨⟨_, _, _, _, rfl, Zz.zero W 0⟩⟩
instance CN.one {W : World} {b : Nat} [h : Sz W b] : CN (W.alloc (.cells #[.int .u32 1] 106)) (.slice (some ⟨b, 0, none⟩) 1 1) 1 1 := ⟨by rw [← h.out]; exact Nn.lit1⟩
theorem ret_bx {P : Program} {fn : Func} {R : Ending → World → Prop} {a : Act} {W : World} {b : Nat} {p : Tmp} {ty t : TypeId} {d : TypeDesc} {l l' : List Value} [hb : Bx W b t l] (hr : fn.results = #[.cell p ty])
    (hu : P.underlying ty = some d) (hd : (match d with | .struct _ | .array _ _ => true | _ => false) = true) (hi : (P.info? ty).map (·.size) = some l.length)
    (hp : a.tmps.getD p undef = .pointer (some ⟨b, 0, none⟩)) (hdf : a.defers = []) (hl : l = l') (hR : R (.returned (.agg l'.toArray)) W) : bodyPost P fn R .ret a W := by
  subst hl
  refine ret_c hr hp (loadVar_at W b ty l d hu hd hi (fun j hj => ?_)) hdf hR
  rw [cell_bx, List.getElem?_eq_getElem hj]
end
section
section
variable {P : Program} {ops : Array Oper} {Q : Exit → Act → World → Prop} {md : Region.Mode} {S : World → Prop} {T : Nat → Bool}
def wpAnyT (P : Program) (md : Region.Mode) (ops : Array Oper) (Q : Exit → Act → World → Prop) (S : World → Prop) (T : Nat → Bool) : Nat → Array Bool → Act → World → Prop
  | 0, listed, a, w => Region.ready md ops listed = [] ∧ Q .normal a w
  | fuel + 1, listed, a, w => (Region.ready md ops listed = [] → Q .normal a w) ∧
    ∀ i ∈ Region.ready md ops listed, wpOp P ops Q i (fun a' w' => (T i = false → S w') ∧ wpAnyT P md ops Q S T fuel (listed.setIfInBounds i true) a' w') a w
theorem wpAny_of_T : ∀ (fuel : Nat) (listed : Array Bool) (a : Act) (w : World), wpAnyT P md ops Q S T fuel listed a w → wpAny P md ops Q fuel listed a w
  | 0, _, _, _, h => h
  | fuel + 1, _, _, _, h => ⟨h.1, fun i hi => wpOp_mono (fun a' w' k => wpAny_of_T fuel _ a' w' k.2) (h.2 i hi)⟩
def waits (md : Region.Mode) (ops : Array Oper) (i j : Nat) : Bool := match ops[j]? with
  | some o => o.after.any fun e => Region.binds md e && e.on == i
  | none => true
theorem not_waits {i j : Nat} {oj : Oper} (hj : ops[j]? = some oj) (hw : waits md ops i j = true) : ∃ e ∈ oj.after, Region.binds md e = true ∧ e.on = i := by
  unfold waits at hw; rw [hj] at hw; obtain ⟨e, he, h⟩ := Array.any_eq_true'.1 hw; simp only [Bool.and_eq_true, beq_iff_eq] at h; exact ⟨e, he, h.1, h.2⟩
theorem wpAnyT_first {i : Nat} {oi : Oper} {v : Value} (hi : ops[i]? = some oi) (hsel : ∀ (j : Nat) (o : Oper) cs b, ops[j]? = some o → o.op ≠ .select cs b)
    (hQ : ∀ c a w, Q (.panic c) (a.put oi.dst v) w → Q (.panic c) a w) (hT : ∀ j, T j = true → waits md ops i j = true) :
    ∀ (fuel : Nat) (listed : Array Bool) (a : Act) (w : World),
      (∀ j oj, ops[j]? = some oj → j ≠ i → listed.getD j true = false → (∀ e ∈ oj.after, Region.binds md e = true → e.on ≠ i) → oi.apart ops oj = true) →
      i ∈ Region.ready md ops listed → YieldsIf P ops S oi v a → S w →
      wpAnyT P md ops Q S T fuel (listed.setIfInBounds i true) (a.put oi.dst v) w → wpAnyT P md ops Q S T (fuel + 1) listed a w := by
  intro fuel
  induction fuel with
  | zero =>
    intro listed a w _ hr hy hS H
    refine ⟨fun h => (by rw [h] at hr; cases hr), fun j hj => ?_⟩
    by_cases hji : j = i
    · subst hji; exact hy.wpOp hi hS ⟨fun _ => hS, H⟩
    · have h0 := ready_mono hj hji
      rw [H.1] at h0
      cases h0
  | succ fuel ih =>
    intro listed a w hfree hr hy hS H
    refine ⟨fun h => (by rw [h] at hr; cases hr), fun j hj => ?_⟩
    by_cases hji : j = i
    · subst hji; exact hy.wpOp hi hS ⟨fun _ => hS, H⟩
    · obtain ⟨hjun, oj, hoj, hall⟩ := mem_ready.1 hj
      have hiun := (mem_ready.1 hr).1
      have hnot : ∀ e ∈ oj.after, Region.binds md e = true → e.on ≠ i := fun e he hb heq => by
        have h1 := hall e he hb
        rw [heq] at h1
        rcases Nat.lt_or_ge i listed.size with h' | h'
        · simp [h'] at hiun h1; rw [hiun] at h1; cases h1
        · simp [Array.getElem?_eq_none h'] at h1
      have hTj : T j = false := by
        cases hc : T j with
        | false => rfl
        | true =>
          obtain ⟨e, he, hb, ho⟩ := not_waits hoj (hT j hc); exact absurd ho (hnot e he hb)
      have k := wpOp_putIf hoj (hfree j oj hoj hji hjun hnot) (fun cs b => hsel i oi cs b hi) (fun cs b => hsel j oj cs b hoj) hQ hy (H.2 j (ready_mono hj hji))
      refine wpOp_mono (fun a' w' q => ⟨fun _ => q.2.1 hTj, ih (listed.setIfInBounds j true) a' w' (fun m om hm hmi hun hno => hfree m om hm hmi ?_ hno) (ready_mono hr (Ne.symm hji)) q.1 (q.2.1 hTj) ?_⟩) k
      · by_cases hjm : j = m
        · subst hjm; exact hjun
        · rw [getD_set_ne true hjm] at hun; exact hun
      · rw [Array.setIfInBounds_comm _ _ hji]; exact q.2.2
theorem wpAnyT_take {i : Nat} {oi : Oper} {v : Value} {fuel : Nat} {listed : Array Bool} {a : Act} {w : World} (hi : ops[i]? = some oi)
    (hs : Region.noSelect ops = true) (hf : Region.free md ops listed i = true) (hr : (Region.ready md ops listed).contains i = true)
    (hQ : ∀ c a w, Q (.panic c) (a.put oi.dst v) w → Q (.panic c) a w) (hT : ∀ j, T j = true → waits md ops i j = true) (hy : YieldsIf P ops S oi v a) (hS : S w)
    (h : wpAnyT P md ops Q S T fuel (listed.setIfInBounds i true) (a.put oi.dst v) w) : wpAnyT P md ops Q S T (fuel + 1) listed a w :=
  wpAnyT_first hi (Region.noSelect_spec hs) hQ hT fuel listed a w (Region.free_spec hi hf) (by simpa using hr) hy hS h
theorem wpAnyT_first0 {i : Nat} {oi : Oper} {v : Value} (hi : ops[i]? = some oi) (hsel : ∀ (j : Nat) (o : Oper) cs b, ops[j]? = some o → o.op ≠ .select cs b)
    (hQ : ∀ c a w, Q (.panic c) (a.put oi.dst v) w → Q (.panic c) a w) (hTi : T i = true) :
    ∀ (fuel : Nat) (listed : Array Bool) (a : Act) (w : World),
      (∀ j oj, ops[j]? = some oj → j ≠ i → listed.getD j true = false → (∀ e ∈ oj.after, Region.binds md e = true → e.on ≠ i) → oi.apart ops oj = true) →
      i ∈ Region.ready md ops listed → YieldsIf P ops (fun _ => True) oi v a →
      wpAnyT P md ops Q S T fuel (listed.setIfInBounds i true) (a.put oi.dst v) w → wpAnyT P md ops Q S T (fuel + 1) listed a w := by
  have hno : ∀ w : World, T i = false → S w := fun w h => by rw [hTi] at h; cases h
  intro fuel
  induction fuel with
  | zero =>
    intro listed a w _ hr hy H
    refine ⟨fun h => (by rw [h] at hr; cases hr), fun j hj => ?_⟩
    by_cases hji : j = i
    · subst hji; exact hy.wpOp hi trivial ⟨hno w, H⟩
    · have h0 := ready_mono hj hji
      rw [H.1] at h0
      cases h0
  | succ fuel ih =>
    intro listed a w hfree hr hy H
    refine ⟨fun h => (by rw [h] at hr; cases hr), fun j hj => ?_⟩
    by_cases hji : j = i
    · subst hji; exact hy.wpOp hi trivial ⟨hno w, H⟩
    · obtain ⟨hjun, oj, hoj, hall⟩ := mem_ready.1 hj
      have hiun := (mem_ready.1 hr).1
      have hnot : ∀ e ∈ oj.after, Region.binds md e = true → e.on ≠ i := fun e he hb heq => by
        have h1 := hall e he hb
        rw [heq] at h1
        rcases Nat.lt_or_ge i listed.size with h' | h'
        · simp [h'] at hiun h1; rw [hiun] at h1; cases h1
        · simp [Array.getElem?_eq_none h'] at h1
      have k := wpOp_putIf hoj (hfree j oj hoj hji hjun hnot) (fun cs b => hsel i oi cs b hi) (fun cs b => hsel j oj cs b hoj) hQ hy (H.2 j (ready_mono hj hji))
      refine wpOp_mono (fun a' w' q => ⟨q.2.1, ih (listed.setIfInBounds j true) a' w' (fun m om hm hmi hun hno => hfree m om hm hmi ?_ hno) (ready_mono hr (Ne.symm hji)) q.1 ?_⟩) k
      · by_cases hjm : j = m
        · subst hjm; exact hjun
        · rw [getD_set_ne true hjm] at hun; exact hun
      · rw [Array.setIfInBounds_comm _ _ hji]; exact q.2.2
theorem wpAnyT_take0 {i : Nat} {oi : Oper} {v : Value} {fuel : Nat} {listed : Array Bool} {a : Act} {w : World} (hi : ops[i]? = some oi)
    (hs : Region.noSelect ops = true) (hf : Region.free md ops listed i = true) (hr : (Region.ready md ops listed).contains i = true)
    (hQ : ∀ c a w, Q (.panic c) (a.put oi.dst v) w → Q (.panic c) a w) (hTi : T i = true) (hy : YieldsIf P ops (fun _ => True) oi v a)
    (h : wpAnyT P md ops Q S T fuel (listed.setIfInBounds i true) (a.put oi.dst v) w) : wpAnyT P md ops Q S T (fuel + 1) listed a w :=
  wpAnyT_first0 hi (Region.noSelect_spec hs) hQ hTi fuel listed a w (Region.free_spec hi hf) (by simpa using hr) hy h
def AllT (P : Program) (md : Region.Mode) (ops : Array Oper) (Q : Exit → Act → World → Prop) (S : World → Prop) (T : Nat → Bool) (fuel : Nat) (listed : Array Bool) (a : Act) (w : World) (rs : List Nat) : Prop :=
  ∀ i ∈ rs, wpOp P ops Q i (fun a' w' => (T i = false → S w') ∧ wpAnyT P md ops Q S T fuel (listed.setIfInBounds i true) a' w') a w
theorem AllT.nil {fuel : Nat} {listed : Array Bool} {a : Act} {w : World} : AllT P md ops Q S T fuel listed a w [] := fun _ h => by cases h
theorem AllT.cons {fuel : Nat} {listed : Array Bool} {a : Act} {w : World} {i : Nat} {o : Oper} {rs : List Nat} (ho : ops[i]? = some o)
    (h : ∀ K' : Act → World → Prop, Shut (∀ a w, (T i = false → S w) → ((T i = false → S w) → wpAnyT P md ops Q S T fuel (listed.setIfInBounds i true) a w) → K' a w) → if Region.wanted o (yielded ops a.tmps) = true then Oper.wp P o a w K' Q else K' (a.put o.dst undef) w)
    (hs : AllT P md ops Q S T fuel listed a w rs) : AllT P md ops Q S T fuel listed a w (i :: rs) := fun j hj => by
  rcases List.mem_cons.1 hj with rfl | hj
  · exact wpOp_step ho (fun K' hK => h K' (fun a w hS hW => hK a w ⟨hS, hW hS⟩))
  · exact hs j hj
theorem wpAnyT_ready {rs : List Nat} {fuel : Nat} {listed : Array Bool} {a : Act} {w : World} (hr : Region.ready md ops listed = rs) (hne : rs ≠ [])
    (h : AllT P md ops Q S T fuel listed a w rs) : wpAnyT P md ops Q S T (fuel + 1) listed a w := ⟨fun h0 => absurd (hr ▸ h0) hne, hr ▸ h⟩
theorem wpAnyT_done {listed : Array Bool} {a : Act} {w : World} (hr : Region.ready md ops listed = []) (h : Q .normal a w) : ∀ fuel, wpAnyT P md ops Q S T fuel listed a w
  | 0 => ⟨hr, h⟩
  | _ + 1 => ⟨fun _ => h, by rw [hr]; simp⟩
theorem region_t {id : Nat} {a : Act} {w : World} (hm : P.follows .mixedOrders = true) (L : List Nat) (T : Nat → Bool)
    (h : Ex w L w.drew → wpAnyT P .any ops Q (Ex w L) T ops.size (Array.replicate ops.size false) a w.drew) : (Code.region id ops true).wp P Q a w :=
  wp_region_any hm (wpAny_of_T _ _ _ _ (h Ex.dr))
theorem T_waits {i : Nat} {L : List Nat} (h : (L.all fun j => waits md ops i j) = true) : ∀ j, (L.contains j) = true → waits md ops i j = true := fun j hj => by
  have := List.all_eq_true.1 h j (by simpa using hj)
  exact this
end
section
variable {P : Program} {ops : Array Oper} {Q : Exit → Act → World → Prop} {md : Region.Mode} {w0 : World} {L Ts : List Nat}
theorem rgn {id : Nat} {a : Act} {w : World} (L Ts : List Nat) (h : Ex w L w.drew → wpAnyT P .any ops Q (Ex w L) Ts.contains ops.size (Array.replicate ops.size false) a w.drew) (hm : P.follows .mixedOrders = true := by kernel_rfl) : (Code.region id ops true).wp P Q a w := region_t hm L Ts.contains h
theorem tk (i : Nat) {oi : Oper} {v : Value} {fuel : Nat} {listed : Array Bool} {a a' : Act} {w : World} (hS : Ex w0 L w) (h : wpAnyT P md ops Q (Ex w0 L) Ts.contains fuel (listed.setIfInBounds i true) a' w)
    (hi : ops[i]? = some oi := by simp; rfl) (hs : Region.noSelect ops = true := by kernel_rfl) (hf : Region.free md ops listed i = true := by kernel_rfl) (hr : (Region.ready md ops listed).contains i = true := by kernel_rfl)
    (hQ : ∀ c a w, Q (.panic c) (a.put oi.dst v) w → Q (.panic c) a w := by exact fun _ _ _ h => h) (hT : (Ts.all fun j => waits md ops i j) = true := by kernel_rfl) (hw : Region.wanted oi (yielded ops a.tmps) = true := by rfl)
    (hy : ∀ wx, Ex w0 L wx → (execOp a.eval oi).run P wx = .ok (.value v) wx := by (intro wx hSw; have hSx := Ex1.mk hSw; go_simp; try with_reducible rfl))
    (ha : a.put oi.dst v = a' := by (simp only [Act.put, List.setIfInBounds_toArray, List.set_cons_zero, List.set_cons_succ]; first | done | rfl)) : wpAnyT P md ops Q (Ex w0 L) Ts.contains (fuel + 1) listed a w := by
  subst ha; exact wpAnyT_take hi hs hf hr hQ (T_waits hT) (Or.inl ⟨hw, hy⟩) hS h
theorem tkU (i : Nat) {oi : Oper} {fuel : Nat} {listed : Array Bool} {a a' : Act} {w : World} (hS : Ex w0 L w) (h : wpAnyT P md ops Q (Ex w0 L) Ts.contains fuel (listed.setIfInBounds i true) a' w)
    (hi : ops[i]? = some oi := by simp; rfl) (hs : Region.noSelect ops = true := by kernel_rfl) (hf : Region.free md ops listed i = true := by kernel_rfl) (hr : (Region.ready md ops listed).contains i = true := by kernel_rfl)
    (hQ : ∀ c a w, Q (.panic c) (a.put oi.dst undef) w → Q (.panic c) a w := by exact fun _ _ _ h => h) (hT : (Ts.all fun j => waits md ops i j) = true := by kernel_rfl) (hw : Region.wanted oi (yielded ops a.tmps) = false := by rfl)
    (ha : a.put oi.dst undef = a' := by (simp only [Act.put, List.setIfInBounds_toArray, List.set_cons_zero, List.set_cons_succ]; first | done | rfl)) : wpAnyT P md ops Q (Ex w0 L) Ts.contains (fuel + 1) listed a w := by
  subst ha; exact wpAnyT_take hi hs hf hr hQ (T_waits hT) (Or.inr ⟨hw, rfl⟩) hS h
theorem tk0 (i : Nat) {oi : Oper} {v : Value} {fuel : Nat} {listed : Array Bool} {a a' : Act} {w : World} (h : wpAnyT P md ops Q (Ex w0 L) Ts.contains fuel (listed.setIfInBounds i true) a' w)
    (hi : ops[i]? = some oi := by simp; rfl) (hs : Region.noSelect ops = true := by kernel_rfl) (hf : Region.free md ops listed i = true := by kernel_rfl) (hr : (Region.ready md ops listed).contains i = true := by kernel_rfl)
    (hQ : ∀ c a w, Q (.panic c) (a.put oi.dst v) w → Q (.panic c) a w := by exact fun _ _ _ h => h) (hTi : Ts.contains i = true := by rfl) (hw : Region.wanted oi (yielded ops a.tmps) = true := by rfl)
    (hy : ∀ wx, True → (execOp a.eval oi).run P wx = .ok (.value v) wx := by (intro wx _; go_simp; try with_reducible rfl))
    (ha : a.put oi.dst v = a' := by (simp only [Act.put, List.setIfInBounds_toArray, List.set_cons_zero, List.set_cons_succ]; first | done | rfl)) : wpAnyT P md ops Q (Ex w0 L) Ts.contains (fuel + 1) listed a w := by
  subst ha; exact wpAnyT_take0 hi hs hf hr hQ hTi (Or.inl ⟨hw, hy⟩) h
theorem st (i : Nat) {o : Oper} {fuel : Nat} {listed : Array Bool} {a : Act} {w : World}
    (h : ∀ K' : Act → World → Prop, Shut (∀ a w, (Ts.contains i = false → Ex w0 L w) → ((Ts.contains i = false → Ex w0 L w) → wpAnyT P md ops Q (Ex w0 L) Ts.contains fuel (listed.setIfInBounds i true) a w) → K' a w) → if Region.wanted o (yielded ops a.tmps) = true then Oper.wp P o a w K' Q else K' (a.put o.dst undef) w)
    (hr : Region.ready md ops listed = [i] := by kernel_rfl) (ho : ops[i]? = some o := by simp; rfl) : wpAnyT P md ops Q (Ex w0 L) Ts.contains (fuel + 1) listed a w := wpAnyT_ready hr (by simp) (AllT.cons ho h AllT.nil)
theorem hd {K : Act → World → Prop} {i fuel : Nat} {listed : Array Bool} {a a' : Act} {w : World} (hK : Shut (∀ a w, (Ts.contains i = false → Ex w0 L w) → ((Ts.contains i = false → Ex w0 L w) → wpAnyT P md ops Q (Ex w0 L) Ts.contains fuel listed a w) → K a w)) [hS : Ex w0 L w]
    (h : Ex w0 L w → wpAnyT P md ops Q (Ex w0 L) Ts.contains fuel listed a' w) (ha : a = a' := by (try simp only [Act.put, List.setIfInBounds_toArray, List.set_cons_zero, List.set_cons_succ]); first | done | rfl) : K a w :=
  hK.out a w (fun _ => hS) (fun _ => by subst ha; exact h hS)
theorem hdT {K : Act → World → Prop} {i fuel : Nat} {listed : Array Bool} {a a' : Act} {w : World} (hK : Shut (∀ a w, (Ts.contains i = false → Ex w0 L w) → ((Ts.contains i = false → Ex w0 L w) → wpAnyT P md ops Q (Ex w0 L) Ts.contains fuel listed a w) → K a w))
    (h : wpAnyT P md ops Q (Ex w0 L) Ts.contains fuel listed a' w) (hTi : Ts.contains i = true := by rfl) (ha : a = a' := by (try simp only [Act.put, List.setIfInBounds_toArray, List.set_cons_zero, List.set_cons_succ]); first | done | rfl) : K a w :=
  hK.out a w (fun e => by rw [hTi] at e; cases e) (fun _ => by subst ha; exact h)
theorem dn {fuel : Nat} {listed : Array Bool} {a : Act} {w : World} (h : Q .normal a w) (hr : Region.ready md ops listed = [] := by kernel_rfl) : wpAnyT P md ops Q (Ex w0 L) Ts.contains fuel listed a w := wpAnyT_done hr h fuel
end
class Nw (w0 : outParam World) (q : Nat) : Prop where out : w0.heap.size ≤ q
theorem rgnW {P : Program} {ops : Array Oper} {Q : Exit → Act → World → Prop} {id : Nat} {a : Act} {w : World} (L Ts : List Nat) (h : ∀ w0, Hid (w0 = w) → Ex w L w.drew → wpAnyT P .any ops Q (Ex w L) Ts.contains ops.size (Array.replicate ops.size false) a w.drew) (hm : P.follows .mixedOrders = true := by kernel_rfl) : (Code.region id ops true).wp P Q a w := region_t hm L Ts.contains (h w (Lib.hid rfl))
theorem kpOf {w0 w : World} (e : Hid (w0 = w)) {W : World} [h : Kp w W] : Kp w0 W := by rw [e.out]; exact h
theorem ggOf {w0 w : World} (e : Hid (w0 = w)) {b : Nat} (h : Gg w0 b) : Gg w b := by rw [← e.out]; exact h
theorem nwOf {w0 w : World} (e : Hid (w0 = w)) {b : Nat} (h : Ge w0 b) : Nw w b := by rw [← e.out]; exact ⟨h.out⟩
end
section
open Go.RowKit Go.Extern.Stop Go.Stop Go.Extern
theorem Tryz.isTypeOf (v : Value) (w : World) : (Extern.ReflectliteType.typeOf #[.iface 365 v]).run Tryz.prog w = .ok (.iface 217 (.agg #[.pointer (some ⟨10, 365, none⟩)])) w := by kernel_rfl
def cmpE : Array Value → Sem Value := Extern.ReflectliteType.method fun t => do Rtype.noPackHeld "Comparable" t; pure (.bool (← typeInfo t).comparable)
theorem Tryz.isComparable (w : World) : (cmpE #[.agg #[.pointer (some ⟨10, 365, none⟩)]]).run Tryz.prog w = .ok (.bool true) w := by kernel_rfl
theorem Tryz.isMethodComparable (v : Value) (w : World) : (Go.method 500 217 v "Comparable").run Tryz.prog w = .ok (324, v) w := by kernel_rfl
theorem Tryz.isComp : (Tryz.prog.info? 365).map (·.comparable) = some true := by kernel_rfl
theorem Tryz.isSize : (Tryz.prog.info? 388).map (·.size) = some 1 := by kernel_rfl
theorem Tryz.noIsE (v : Value) (xT : TypeId) (w : World) : (Instr.typeAssert (.iface 365 v) xT 219 true).run Tryz.prog w = .ok (.tuple #[.nilIface, .bool false]) w := run_typeAssert_lacksB Tryz.underlying219 (by kernel_rfl) (by kernel_rfl) v xT w
theorem Tryz.noUnwrapE (v : Value) (xT : TypeId) (w : World) : (Instr.typeAssert (.iface 365 v) xT 222 true).run Tryz.prog w = .ok (.tuple #[.nilIface, .bool false]) w := run_typeAssert_lacksB Tryz.underlying222 (by kernel_rfl) (by kernel_rfl) v xT w
theorem Tryz.noUnwrapsE (v : Value) (xT : TypeId) (w : World) : (Instr.typeAssert (.iface 365 v) xT 224 true).run Tryz.prog w = .ok (.tuple #[.nilIface, .bool false]) w := run_typeAssert_lacksB Tryz.underlying224 (by kernel_rfl) (by kernel_rfl) v xT w
theorem Tryz.noIsW (v : Value) (xT : TypeId) (w : World) : (Instr.typeAssert (.iface 114 v) xT 219 true).run Tryz.prog w = .ok (.tuple #[.nilIface, .bool false]) w := run_typeAssert_lacksB Tryz.underlying219 (by kernel_rfl) (by kernel_rfl) v xT w
theorem Tryz.hasUnwrapW (v : Value) (xT : TypeId) (w : World) : (Instr.typeAssert (.iface 114 v) xT 222 true).run Tryz.prog w = .ok (.tuple #[.iface 114 v, .bool true]) w := run_typeAssert_hasB Tryz.underlying222 (by kernel_rfl) v xT w
theorem Tryz.methodUnwrap (v : Value) (w : World) : (Go.method 500 114 v "Unwrap").run Tryz.prog w = .ok (319, v) w := by kernel_rfl
theorem is_err_same (pb : Nat) (b : Addr) (w : World) (h1 : w.cell? ⟨pb, 0, none⟩ = some (.iface 365 (.pointer (some b)))) :
    Calls Tryz.prog 18 #[.iface 114 (.pointer (some ⟨pb, 0, none⟩)), .iface 365 (.pointer (some b))] w fun e w' => e = .returned (.bool true) ∧ w = w' := by
  obtain ⟨i, hi, hcmp⟩ := Option.map_eq_some_iff.1 Tryz.isComp; obtain ⟨j, hj, hjs⟩ := Option.map_eq_some_iff.1 Tryz.isSize
  have h8 := @run_callFunc_extern Tryz.prog 70 _ Extern.ReflectliteType.typeOf Tryz.func70 (by kernel_rfl) (by kernel_rfl) (by kernel_rfl) (by kernel_rfl)
  have h32 := @run_callFunc_extern Tryz.prog 324 _ cmpE Tryz.func324 (by kernel_rfl) (by kernel_rfl) (by kernel_rfl) (by kernel_rfl)
  have tT := Tryz.isTypeOf
  have cT := Tryz.isComparable
  have mR := Tryz.isMethodComparable
  have nE := Tryz.noIsE
  have uE := Tryz.noUnwrapE
  have vE := Tryz.noUnwrapsE
  have nW := Tryz.noIsW
  have uW := Tryz.hasUnwrapW
  have mU := Tryz.methodUnwrap
  have heq := run_eql_iface_ptr_same (P := Tryz.prog) w b Tryz.underlying36 Tryz.underlying365 hi hcmp hj
  have hty := run_eql_iface_types (P := Tryz.prog) 114 365 (.pointer (some ⟨pb, 0, none⟩)) (.pointer (some b)) Tryz.underlying36 (by decide) w
  go_enter Tryz.func18, Tryz.ntmps18; go_wp2
  refine wp_loop_rounds 2 ?_
  rw [rounds_succ]; go_wp2; rw [rounds_succ]; go_wp2; go_ret; exact ⟨rfl, rfl⟩
end
section
instance : BoxT 116 := by constructor <;> decide
instance {t : TypeId} {v : Value} : Ndg (.iface t v) := ⟨rfl⟩
instance : Ndg .nilIface := ⟨rfl⟩
instance {s : ByteArray} : Ndg (.string s) := ⟨rfl⟩
class Snt (W : World) (g : Nat) (a : outParam Addr) (w0 : outParam World) : Prop where
  cell : W.cell? ⟨g, 0, none⟩ = some (.iface 365 (.pointer (some a)))
  row : ∃ c t, W.heap[a.block]? = some (.cells c t (0, 0))
  lt : g < w0.heap.size ∧ a.block < w0.heap.size
  ltW : g < W.heap.size ∧ a.block < W.heap.size
theorem Snt.mk1 {W : World} {g : Nat} {a : Addr} (h1 : W.cell? ⟨g, 0, none⟩ = some (.iface 365 (.pointer (some a)))) (h2 : ∃ c t, W.heap[a.block]? = some (.cells c t (0, 0))) : Snt W g a W := by
  obtain ⟨c, t, h⟩ := h2; exact ⟨h1, ⟨c, t, h⟩, ⟨lt_of_cell h1, heap_lt h⟩, ⟨lt_of_cell h1, heap_lt h⟩⟩
theorem Snt.here {W w0 : World} {g : Nat} {a : Addr} (h : Snt W g a w0) : Snt W g a W := ⟨h.cell, h.row, h.ltW, h.ltW⟩
theorem Snt.keep {W W2 w0 : World} {g : Nat} {a : Addr} (h : Snt W g a w0) (hs : W.heap.size ≤ W2.heap.size) (hg : W2.heap[g]? = W.heap[g]?) (ha : W2.heap[a.block]? = W.heap[a.block]?) : Snt W2 g a w0 := by
  refine ⟨?_, ?_, h.lt, ⟨Nat.lt_of_lt_of_le h.ltW.1 hs, Nat.lt_of_lt_of_le h.ltW.2 hs⟩⟩
  · have := h.cell
    unfold World.cell? at this ⊢
    simp only [hg]; exact this
  · rw [ha]; exact h.row
instance Snt.al {W w0 : World} {g : Nat} {a : Addr} {o : Obj} [h : Snt W g a w0] : Snt (W.alloc o) g a w0 := h.keep (by rw [World.size_alloc]; omega) (heap_al_lt h.ltW.1) (heap_al_lt h.ltW.2)
instance (priority := low) Snt.kp {W W2 w0 : World} {g : Nat} {a : Addr} [k : Kp1 W W2] [h : Snt W g a w0] : Snt W2 g a w0 := h.keep k.out.size (k.out.block _ h.ltW.1) (k.out.block _ h.ltW.2)
instance (priority := low) Snt.tp {W W2 w0 : World} {g g' : Nat} {a : Addr} [k : Tp1 W W2 g'] [h : Snt W g a w0] [n : Ge w0 g'] : Snt W2 g a w0 := h.keep k.gb.size
  (k.gb.block _ h.ltW.1 (fun e => by injection e with e; have := n.out; have := h.lt.1; omega)) (k.gb.block _ h.ltW.2 (fun e => by injection e with e; have := n.out; have := h.lt.2; omega))
class GeL (w0 : World) (L : List Nat) : Prop where out : ∀ q ∈ L, w0.heap.size ≤ q
instance GeL.nil {w0 : World} : GeL w0 [] := ⟨fun _ h => nomatch h⟩
instance GeL.cons {w0 : World} {q : Nat} {L : List Nat} [h1 : Ge w0 q] [h2 : GeL w0 L] : GeL w0 (q :: L) := ⟨fun x h => by
  rcases List.mem_cons.1 h with rfl | h
  · exact h1.out
  · exact h2.out _ h⟩
instance (priority := low) Snt.ex {W0 W w0 : World} {L : List Nat} {g : Nat} {a : Addr} [e : Ex1 W0 L W] [h : Snt W0 g a w0] [n : GeL w0 L] : Snt W g a w0 := h.keep e.out.size
  (e.out.block _ h.ltW.1 (fun hm => by have := n.out _ hm; have := h.lt.1; omega)) (e.out.block _ h.ltW.2 (fun hm => by have := n.out _ hm; have := h.lt.2; omega))
@[go_sem] theorem cell_snt {W w0 : World} {g : Nat} {a : Addr} [h : Snt W g a w0] : W.cell? ⟨g, 0, none⟩ = some (.iface 365 (.pointer (some a))) := h.cell
theorem isSameC {w : World} {b : Nat} {a : Addr} {l c : Int} {s : ByteArray} [h : Bx w b 116 [.iface 365 (.pointer (some a)), .int .i64 l, .int .i64 c, .string s]] :
    Calls Tryz.prog 18 #[.iface 114 (.pointer (some ⟨b, 0, none⟩)), .iface 365 (.pointer (some a))] w fun e w' => e = .returned (.bool true) ∧ w = w' :=
  is_err_same b a w (by rw [cell_bx]; rfl)
end
section
class Rw (W : World) (v : Value) (e : outParam TypeId) (sz : outParam Nat) (n : outParam Nat) (xs : outParam (List Value)) (base : outParam Nat) (w0 : outParam World) : Prop where
  out : W.ownsRow base e sz v n xs
  lt : ∀ g, v.ownBlock = some g → g < w0.heap.size
  ltW : ∀ g, v.ownBlock = some g → g < W.heap.size
  hb : base ≤ W.heap.size
theorem Rw.mk1 {W : World} {v : Value} {e : TypeId} {sz n base : Nat} {xs : List Value} (h : W.ownsRow base e sz v n xs) (hb : base ≤ W.heap.size) : Rw W v e sz n xs base W := ⟨h, fun g e => (h.lt g e).2, fun g e => (h.lt g e).2, hb⟩
theorem Rw.here {W w0 : World} {v : Value} {e : TypeId} {sz n base : Nat} {xs : List Value} (h : Rw W v e sz n xs base w0) : Rw W v e sz n xs base W := ⟨h.out, h.ltW, h.ltW, h.hb⟩
theorem Rw.nil {W : World} {e : TypeId} {sz base : Nat} (hb : base ≤ W.heap.size) : Rw W (.slice none 0 0) e sz 0 [] base W := Rw.mk1 (World.ownsRow_nil _ _ _ _) hb
theorem Rw.keep {W W2 w0 : World} {v : Value} {e : TypeId} {sz n base : Nat} {xs : List Value} (h : Rw W v e sz n xs base w0) (hs : W.heap.size ≤ W2.heap.size) (hb : ∀ g, v.ownBlock = some g → W2.heap[g]? = W.heap[g]?) : Rw W2 v e sz n xs base w0 := by
  refine ⟨?_, h.lt, fun g e => Nat.lt_of_lt_of_le (h.ltW g e) hs, Nat.le_trans h.hb hs⟩
  obtain ⟨h1, h2⟩ := h.out
  refine ⟨h1, ?_⟩
  rcases h2 with hn | ⟨g, cap, cur, rfl, hbg, hgg, rest⟩
  · exact .inl hn
  · exact .inr ⟨g, cap, cur, rfl, hbg, by rw [hb g rfl]; exact hgg, rest⟩
class Ap1 (W : outParam World) (W2 : World) (base : outParam Nat) (w0 : outParam World) : Prop where out : ∃ row : Option Nat, W.grownBy W2 row ∧ ∀ k, row = some k → base ≤ k ∧ k < w0.heap.size
theorem Ap1.size {W W2 w0 : World} {base : Nat} (h : Ap1 W W2 base w0) : W.heap.size ≤ W2.heap.size := by obtain ⟨_, h, _⟩ := h.out; exact h.size
theorem Ap1.block {W W2 w0 : World} {base : Nat} (h : Ap1 W W2 base w0) {b : Nat} (hb : b < W.heap.size) (hn : b < base ∨ w0.heap.size ≤ b) : W2.heap[b]? = W.heap[b]? := by
  obtain ⟨row, h, hk⟩ := h.out
  exact h.block b hb (fun e => by have := hk b e.symm; omega)
instance (priority := low) Bx.ap {W W2 w0 : World} {base b : Nat} {t : TypeId} {l : List Value} [k : Ap1 W W2 base w0] [h : Bx W b t l] [n : LtN b base] : Bx W2 b t l := ⟨by rw [k.block h.lt (.inl n.out)]; exact h.out⟩
instance (priority := low) Kp.ap {w W W2 w0 : World} {base : Nat} [k : Ap1 W W2 base w0] [h : Kp w W] [n : Ge w base] : Kp w W2 := ⟨by
  obtain ⟨row, hg, hk⟩ := k.out
  exact h.out.grown hg h.out.size (fun x e => Nat.le_trans n.out (hk x e).1)⟩
end
section
theorem gcd_len {m n k : Nat} (h1 : (nf m).length ≤ k) (h2 : (nf n).length ≤ k) : (nf (Nat.gcd m n)).length ≤ k := by
  by_cases h0 : m = 0
  · subst h0; rw [Nat.gcd_zero_left]; exact h2
  · exact len_le (Nat.gcd_le_left _ (Nat.pos_of_ne_zero h0)) h1
theorem commonW {w : World} {u v : Value} {m n k1 k2 : Nat} (hu : Nn w u m k1) (hv : Nn w v n k2) (hk1 : k1 ≤ 200000) (hk2 : k2 ≤ 200000) :
    Calls Tryz.prog 138 #[u, v] w (RetN w (Nat.gcd m n) (max k1 k2)) := by
  obtain ⟨a1, c1, rfl⟩ := hu.1.sl; obtain ⟨a2, c2, rfl⟩ := hv.1.sl
  have hl1 := Nat.le_trans hu.2 (Nat.le_max_left k1 k2)
  have hl2 := Nat.le_trans hv.2 (Nat.le_max_right k1 k2)
  have hK : max k1 k2 ≤ 200000 := (by omega); have HGL := Lib.hid (gcd_len hl1 hl2); have HL1 := Lib.hid hl1; have HL2 := Lib.hid hl2; have CW := Lib.hid (numWord2W hu); have CV := Lib.hid (fun (W : World) (h : Below w.heap.size w W) => numWord2W (hv.keep h)); have HU := Lib.hid hu.1; have HV := Lib.hid hv.1; clear hu hv hl1 hl2 hk1 hk2
  generalize max k1 k2 = K at *
  by_cases hs : m < 18446744073709551616 ∧ n < 18446744073709551616
  · obtain ⟨hm1, hn1⟩ := hs; have HU1 := Lib.hid (uintV_lt hm1); have HU2 := Lib.hid (uintV_lt hn1); go_enter Tryz.func138, Tryz.ntmps138; go_wp2_with fail
    refine CW.out.mono ?_
    rintro e w1 ⟨rfl, j1, rfl⟩
    rw [HU1.out]; go_wp2_with fail
    refine (CV.out _ (blw_drewN (Below.refl _ _) _)).mono ?_
    rintro e w2 ⟨rfl, j2, rfl⟩
    rw [HU2.out]; have B1 := Lib.hid (show Below w.heap.size w (w.drewN (j1 + j2)) from blw_drewN (Below.refl _ _) _); go_wp2_with fail
    generalize w.drewN (j1 + j2) = w1 at *
    go_loopw [5, 7] (fun x y wx => ∃ a b : Int, x = .int .u64 a ∧ y = .int .u64 b ∧ 0 ≤ a ∧ a < 18446744073709551616 ∧ 0 ≤ b ∧ b < 18446744073709551616 ∧ Hid (Below w.heap.size w wx) ∧ Hid (Nat.gcd a.toNat b.toNat = Nat.gcd m n)) (fun _ y _ => (intOf y).toNat)
    case atStart => exact ⟨(m : Int), (n : Int), rfl, rfl, by omega, by omega, by omega, by omega, B1, rfl⟩
    case round =>
      obtain ⟨a, b, rfl, rfl, ha0, ha, hb0, hb, hW2, hG2⟩ := hrel
      by_cases h0 : b = 0
      · have HE : Hid (a.toNat = Nat.gcd m n) := by show _ = _; rw [← hG2.out, h0]; simp
        subst h0; go_wp2_with fail
        refine (wordZ _ _ a.toNat (by omega) (by omega)).mono ?_
        rintro e w4 ⟨z, rfl, hz, b4⟩
        go_wp2; go_ret; rw [HE.out] at hz; exact .mk (.of_own hz HGL.out) (blw_trans hW2.out b4)
      · obtain ⟨g1, g2⟩ := gcd_step (by omega : b.toNat ≠ 0) hG2.out; have HG := Lib.hid g1; have HL := Lib.hid g2; have hb1 : 0 < b := (by omega)
        have e2 : a % b = ((a.toNat % b.toNat : Nat) : Int) := by rw [Int.natCast_emod, Int.toNat_of_nonneg ha0, Int.toNat_of_nonneg hb0]
        have E2 := Lib.hid e2
        have e3 : (a % b).toNat = a.toNat % b.toNat := by rw [e2]; rfl
        have E3 := Lib.hid e3; clear g1 g2 e2 e3 h0; go_wp2_with fail; have hq1 : (1 : Int) ≤ b := (by omega)
        have hq0 : (b == 0) = false := by rw [beq_eq_false_iff_ne]; omega
        have hqz : ¬ (b = 0) := (by omega)
        have m1 := Int.emod_nonneg a hqz
        have m2 := Int.emod_lt_of_pos a hb1
        have em : a.tmod b = a % b := Int.tmod_eq_emod_of_nonneg ha0
        go_quiet (fail)
        go_wp2_with fail
        go_roundw
        case rel => exact ⟨b, a % b, rfl, by first | rfl | rw [em], by omega, by omega, m1, by omega, blw_drewN hW2.out _, by show _ = _; rw [E3.out]; exact HG.out⟩
        case measure => simp only [intOf]; first | (rw [E3.out]; exact HL.out) | (rw [em, E3.out]; exact HL.out)
  · have hs : 18446744073709551616 ≤ m ∨ (m < 18446744073709551616 ∧ 18446744073709551616 ≤ n) := by omega
    go_enter Tryz.func138, Tryz.ntmps138
    rcases hs with hs | ⟨hs1, hs2⟩
    · have HU1 := Lib.hid (uintV_ge hs); clear hs; go_wp2_with fail
      refine CW.out.mono ?_
      rintro e w1 ⟨rfl, j1, rfl⟩
      rw [HU1.out]; have B1 := Lib.hid (show Below w.heap.size w (w.drewN j1) from blw_drewN (Below.refl _ _) _)
      generalize w.drewN j1 = w1 at *
      go_wp2_with fail
      go_loopw [0, 1] (fun x y wr => ∃ p q : Nat, Hid (∃ a l c, x = .slice a l c ∧ Rd wr (.slice a l c) (nf p)) ∧ Hid (∃ a l c, y = .slice a l c ∧ Rd wr (.slice a l c) (nf q)) ∧ Hid (Below w.heap.size w wr) ∧ Hid (Nat.gcd p q = Nat.gcd m n) ∧ Hid ((nf p).length ≤ K) ∧ Hid ((nf q).length ≤ K)) (fun _ y wr => rdVal wr y)
      case atStart => exact ⟨m, n, ⟨_, _, _, rfl, HU.out.keep B1.out⟩, ⟨_, _, _, rfl, HV.out.keep B1.out⟩, B1, rfl, HL1, HL2⟩
      case round =>
        obtain ⟨p, q, hP, hQ, hW, hG, hlp, hlq⟩ := hrel; obtain ⟨ax, lx, cx, rfl, hx⟩ := hP.out; obtain ⟨ay, ly, cy, rfl, hy⟩ := hQ.out; have HX := Lib.hid hx; have HY := Lib.hid hy
        have hly := hy.len
        clear hP hQ hx hy
        by_cases h0 : q = 0
        · have HE : Hid (p = Nat.gcd m n) := by show _ = _; rw [← hG.out, h0, Nat.gcd_zero_right]
          have hz : ¬ ((0 : Int) < (ly : Int)) := by rw [hly, h0]; decide
          have HLP := Lib.hid hlp.out; clear h0 hly
          go_wp2_with (at_builtin; go_loud (refine app_u32 _ rfl (.tmp 42) (.tmp 43) 41 41 rfl Tryz.underlying41 Tryz.underlying41 wr.heap.size _ _ [] (nf p) rfl rfl (own_lit wr [] dig_nil (by simp) _ rfl) (HX.out.keep (blw_one _ _)) (by have := HLP.out; simp; omega) (by simp) ?_); intro v1 w3 o1 g1 _)
          have B3 := own_grown (own_lit wr [] dig_nil (by simp) _ rfl) (blw_one _ _) g1 (Nat.le_refl _)
          go_ret; rw [List.nil_append, HE.out] at o1; exact .mk (.of_own o1 HGL.out) (blw_trans hW.out B3)
        · have hz : (0 : Int) < (ly : Int) := by rw [hly]; have := nf_len_pos h0; omega
          obtain ⟨g1, g2⟩ := gcd_step h0 hG.out; have HG := Lib.hid g1; have HL := Lib.hid g2; have CD := Lib.hid (divideW (w := wr) ⟨HX.out, hlp.out⟩ ⟨HY.out, hlq.out⟩ h0 hK); clear g1 g2 h0 hly; go_wp2_with fail
          refine CD.out.mono ?_
          rintro e w3 ⟨aq, lq, cq, ar, lr, cr, rfl, _, hr, b3⟩
          have HR := Lib.hid hr.1
          have hV := rdVal_eq HY.out
          have hV2 := rdVal_eq hr.1
          rw [val_nf] at hV hV2; have HV1 := Lib.hid hV; have HV2 := Lib.hid hV2; have HB3 := Lib.hid b3; clear hr hV hV2 b3; go_wp2_with fail
          go_roundw
          case rel => exact ⟨q, p % q, ⟨_, _, _, rfl, HY.out.keep HB3.out⟩, ⟨_, _, _, rfl, HR.out⟩, blw_trans hW.out HB3.out, HG, hlq, len_le (Nat.mod_le _ _) hlp.out⟩
          case measure => rw [HV1.out, HV2.out]; exact HL.out
    · have HU1 := Lib.hid (uintV_lt hs1); have HU2 := Lib.hid (uintV_ge hs2); clear hs1 hs2; go_wp2_with fail
      refine CW.out.mono ?_
      rintro e w1 ⟨rfl, j1, rfl⟩
      rw [HU1.out]; go_wp2_with fail
      refine (CV.out _ (blw_drewN (Below.refl _ _) _)).mono ?_
      rintro e w2 ⟨rfl, j2, rfl⟩
      rw [HU2.out]; have B1 := Lib.hid (show Below w.heap.size w (w.drewN (j1 + j2)) from blw_drewN (Below.refl _ _) _); go_wp2_with fail
      generalize w.drewN (j1 + j2) = w1 at *
      go_wp2_with fail
      go_loopw [0, 1] (fun x y wr => ∃ p q : Nat, Hid (∃ a l c, x = .slice a l c ∧ Rd wr (.slice a l c) (nf p)) ∧ Hid (∃ a l c, y = .slice a l c ∧ Rd wr (.slice a l c) (nf q)) ∧ Hid (Below w.heap.size w wr) ∧ Hid (Nat.gcd p q = Nat.gcd m n) ∧ Hid ((nf p).length ≤ K) ∧ Hid ((nf q).length ≤ K)) (fun _ y wr => rdVal wr y)
      case atStart => exact ⟨m, n, ⟨_, _, _, rfl, HU.out.keep B1.out⟩, ⟨_, _, _, rfl, HV.out.keep B1.out⟩, B1, rfl, HL1, HL2⟩
      case round =>
        obtain ⟨p, q, hP, hQ, hW, hG, hlp, hlq⟩ := hrel; obtain ⟨ax, lx, cx, rfl, hx⟩ := hP.out; obtain ⟨ay, ly, cy, rfl, hy⟩ := hQ.out; have HX := Lib.hid hx; have HY := Lib.hid hy
        have hly := hy.len
        clear hP hQ hx hy
        by_cases h0 : q = 0
        · have HE : Hid (p = Nat.gcd m n) := by show _ = _; rw [← hG.out, h0, Nat.gcd_zero_right]
          have hz : ¬ ((0 : Int) < (ly : Int)) := by rw [hly, h0]; decide
          have HLP := Lib.hid hlp.out; clear h0 hly
          go_wp2_with (at_builtin; go_loud (refine app_u32 _ rfl (.tmp 42) (.tmp 43) 41 41 rfl Tryz.underlying41 Tryz.underlying41 wr.heap.size _ _ [] (nf p) rfl rfl (own_lit wr [] dig_nil (by simp) _ rfl) (HX.out.keep (blw_one _ _)) (by have := HLP.out; simp; omega) (by simp) ?_); intro v1 w3 o1 g1 _)
          have B3 := own_grown (own_lit wr [] dig_nil (by simp) _ rfl) (blw_one _ _) g1 (Nat.le_refl _)
          go_ret; rw [List.nil_append, HE.out] at o1; exact .mk (.of_own o1 HGL.out) (blw_trans hW.out B3)
        · have hz : (0 : Int) < (ly : Int) := by rw [hly]; have := nf_len_pos h0; omega
          obtain ⟨g1, g2⟩ := gcd_step h0 hG.out; have HG := Lib.hid g1; have HL := Lib.hid g2; have CD := Lib.hid (divideW (w := wr) ⟨HX.out, hlp.out⟩ ⟨HY.out, hlq.out⟩ h0 hK); clear g1 g2 h0 hly; go_wp2_with fail
          refine CD.out.mono ?_
          rintro e w3 ⟨aq, lq, cq, ar, lr, cr, rfl, _, hr, b3⟩
          have HR := Lib.hid hr.1
          have hV := rdVal_eq HY.out
          have hV2 := rdVal_eq hr.1
          rw [val_nf] at hV hV2; have HV1 := Lib.hid hV; have HV2 := Lib.hid hV2; have HB3 := Lib.hid b3; clear hr hV hV2 b3; go_wp2_with fail
          go_roundw
          case rel => exact ⟨q, p % q, ⟨_, _, _, rfl, HY.out.keep HB3.out⟩, ⟨_, _, _, rfl, HR.out⟩, blw_trans hW.out HB3.out, HG, hlq, len_le (Nat.mod_le _ _) hlp.out⟩
          case measure => rw [HV1.out, HV2.out]; exact HL.out
end
section
theorem sgn_not {x : Int} : sgn (!decide (x < 0)) x.natAbs = -x := by
  unfold sgn
  by_cases h : x < 0 <;> simp [h] <;> omega
theorem sgn_mul {x y : Int} : sgn (decide (x < 0) != decide (y < 0)) (x.natAbs * y.natAbs) = x * y := by
  have h : sgn (decide (x < 0) != decide (y < 0)) (x.natAbs * y.natAbs) = sgn (decide (x < 0)) x.natAbs * sgn (decide (y < 0)) y.natAbs := by
    cases decide (x < 0) <;> cases decide (y < 0) <;> simp [sgn, Int.neg_mul, Int.mul_neg]
  rw [h, sgn_of, sgn_of]
theorem sgn_add {x y : Int} (h : decide (x < 0) = decide (y < 0)) : sgn (decide (x < 0)) (x.natAbs + y.natAbs) = x + y := by
  have h' : sgn (decide (x < 0)) (x.natAbs + y.natAbs) = sgn (decide (x < 0)) x.natAbs + sgn (decide (y < 0)) y.natAbs := by
    rw [h]; cases decide (y < 0) <;> simp [sgn] <;> omega
  rw [h', sgn_of, sgn_of]
theorem sgn_less {x y : Int} (h : decide (x < 0) ≠ decide (y < 0)) (hl : y.natAbs ≤ x.natAbs) : sgn (decide (x < 0)) (x.natAbs - y.natAbs) = x + y := by
  have h' : sgn (decide (x < 0)) (x.natAbs - y.natAbs) = sgn (decide (x < 0)) x.natAbs + sgn (decide (y < 0)) y.natAbs := by
    revert h; cases decide (x < 0) <;> cases decide (y < 0) <;> simp [sgn] <;> omega
  rw [h', sgn_of, sgn_of]
theorem cmpN_ltB {m n : Nat} (h : m < n) : (cmpN m n < 0) ↔ True := by rw [cmpN_lt h]; decide
theorem cmpN_geB {m n : Nat} (h : n ≤ m) : (cmpN m n < 0) ↔ False := by
  rcases Nat.lt_or_ge n m with h' | h'
  · rw [cmpN_gt h']; decide
  · rw [cmpN_eq (by omega)]; decide
end
section
theorem Calls.cE {P : Program} {f : FuncId} {args : Array Value} {w : World} {v : Value} {K : Ending → World → Prop} (h : Calls P f args w (fun e w' => e = .returned v ∧ Below w.heap.size w w'))
    (hK : ∀ w' [Kp1 w w'], K (.returned v) w') : Calls P f args w K := by
  refine h.mono ?_
  rintro e w' ⟨rfl, hb⟩
  exact @hK w' ⟨hb⟩
theorem Calls.cS {P : Program} {f : FuncId} {args : Array Value} {w : World} {v : Value} {K : Ending → World → Prop} (h : Calls P f args w (fun e w' => e = .returned v ∧ w = w')) (hK : K (.returned v) w) : Calls P f args w K := Calls.kS h hK
theorem E.fin {w w' : World} {v v' : Value} [b : Kp w w'] (e : v = v') : (fun e w' => e = Ending.returned v' ∧ Below w.heap.size w w') (.returned v) w' := by
  subst e; exact ⟨rfl, b.out⟩
theorem CN.cast {W : World} {v : Value} {n n' : Nat} {k k' : Nat} (h : CN W v n k) (e : n = n') (b : k ≤ k') : CN W v n' k' := by
  subst e; exact ⟨h.out.mono b⟩
theorem CZ.cast {W : World} {v : Value} {n n' : Int} {k k' : Nat} (h : CZ W v n k) (e : n = n') (b : k ≤ k') : CZ W v n' k' := by
  subst e; exact ⟨by obtain ⟨g, a, l, c, e, h'⟩ := h.out; exact ⟨g, a, l, c, e, h'.cast rfl b⟩⟩
def CNRet (w : World) (x : Nat) (k : Nat) (e : Ending) (w' : World) : Prop := ∃ a l c, e = .returned (.slice a l c) ∧ CN w' (.slice a l c) x k ∧ Below w.heap.size w w'
theorem CNRet.of {w w' : World} {n k : Nat} {e : Ending} (h : RetN w n k e w') : CNRet w n k e w' := by
  obtain ⟨a, l, c, e, h, hb⟩ := h; exact ⟨a, l, c, e, ⟨h⟩, hb⟩
theorem Calls.cN {P : Program} {f : FuncId} {args : Array Value} {w : World} {x : Nat} {k : Nat} {K : Ending → World → Prop} (h : Calls P f args w (CNRet w x k))
    (hK : ∀ w' [Kp1 w w'] (a : Option Addr) (l : Nat) (c : Nat) [CN w' (.slice a l c) x k], K (.returned (.slice a l c)) w') : Calls P f args w K := by
  refine h.mono ?_
  rintro e w' ⟨a, l, c, rfl, hx, hb⟩
  exact @hK w' ⟨hb⟩ a l c hx
theorem CNRet.fin {w w' : World} {a : Option Addr} {l : Nat} {c : Nat} {x x' : Nat} {kx : Nat} {k : Nat} [b : Kp w w'] [hx : CN w' (.slice a l c) x kx] (ex : x = x') (mx : kx ≤ k) : CNRet w x' k (.returned (.slice a l c)) w' :=
  ⟨_, _, _, rfl, hx.cast ex mx, b.out⟩
def CZRet (w : World) (x : Int) (k : Nat) (e : Ending) (w' : World) : Prop := ∃ g a l c, e = .returned (.agg #[.bool g, .slice a l c]) ∧ CZ w' (.agg #[.bool g, .slice a l c]) x k ∧ Below w.heap.size w w'
theorem Calls.cZ {P : Program} {f : FuncId} {args : Array Value} {w : World} {x : Int} {k : Nat} {K : Ending → World → Prop} (h : Calls P f args w (CZRet w x k))
    (hK : ∀ w' [Kp1 w w'] (g : Bool) (a : Option Addr) (l : Nat) (c : Nat) [CZ w' (.agg #[.bool g, .slice a l c]) x k], K (.returned (.agg #[.bool g, .slice a l c])) w') : Calls P f args w K := by
  refine h.mono ?_
  rintro e w' ⟨g, a, l, c, rfl, hx, hb⟩
  exact @hK w' ⟨hb⟩ g a l c hx
theorem CZRet.fin {w w' : World} {g : Bool} {a : Option Addr} {l : Nat} {c : Nat} {x x' : Int} {kx : Nat} {k : Nat} [b : Kp w w'] [hx : CZ w' (.agg #[.bool g, .slice a l c]) x kx] (ex : x = x') (mx : kx ≤ k) : CZRet w x' k (.returned (.agg #[.bool g, .slice a l c])) w' :=
  ⟨_, _, _, _, rfl, hx.cast ex mx, b.out⟩
theorem zz_of {w : World} {g : Bool} {a : Option Addr} {l c : Nat} {z : Int} {k : Nat} (h : CZ w (.agg #[.bool g, .slice a l c]) z k) : Zz w g (.slice a l c) z k := by
  obtain ⟨g', a', l', c', e, h⟩ := h.out; simp only [Value.agg.injEq, Array.mk.injEq, List.cons.injEq, Value.bool.injEq, and_true] at e; obtain ⟨rfl, e⟩ := e
  rw [e]; exact h
theorem zi_of {w : World} {g : Bool} {a : Option Addr} {l c : Nat} {z : Int} {k : Nat} (h : CI w (.agg #[.bool g, .slice a l c]) z k) : Zi w g (.slice a l c) z k := by
  obtain ⟨g', a', l', c', e, h⟩ := h.out; simp only [Value.agg.injEq, Array.mk.injEq, List.cons.injEq, Value.bool.injEq, and_true] at e; obtain ⟨rfl, e⟩ := e
  rw [e]; exact h
theorem normC {w : World} {a1 : Option Addr} {l1 c1 m k1 : Nat} [h1 : CR w (.slice a1 l1 c1) m k1] (b : k1 ≤ 900000) :
    Calls Tryz.prog 216 #[.slice a1 l1 c1] w (CNRet w m (k1)) :=
  (normW h1.out b).mono fun _ _ => CNRet.of
theorem addC {w : World} {a1 a2 : Option Addr} {l1 c1 m l2 c2 n k1 k2 : Nat} [h1 : CR w (.slice a1 l1 c1) m k1] [h2 : CR w (.slice a2 l2 c2) n k2] (b : k1 ≤ 900000 ∧ k2 ≤ 900000) :
    Calls Tryz.prog 272 #[.slice a1 l1 c1, .slice a2 l2 c2] w (CNRet w (m + n) (max k1 k2 + 1)) :=
  (addW h1.out h2.out b.1 b.2).mono fun _ _ => CNRet.of
theorem mulC {w : World} {a1 a2 : Option Addr} {l1 c1 m l2 c2 n k1 k2 : Nat} [h1 : CR w (.slice a1 l1 c1) m k1] [h2 : CR w (.slice a2 l2 c2) n k2] (b : k1 ≤ 900000 ∧ k2 ≤ 900000) :
    Calls Tryz.prog 212 #[.slice a1 l1 c1, .slice a2 l2 c2] w (CNRet w (m * n) (k1 + k2)) :=
  (mulW h1.out h2.out b.1 b.2).mono fun _ _ => CNRet.of
theorem gcdC {w : World} {a1 a2 : Option Addr} {l1 c1 m l2 c2 n k1 k2 : Nat} [h1 : CR w (.slice a1 l1 c1) m k1] [h2 : CR w (.slice a2 l2 c2) n k2] (b : k1 ≤ 900000 ∧ k2 ≤ 900000) :
    Calls Tryz.prog 249 #[.slice a1 l1 c1, .slice a2 l2 c2] w (CNRet w (Nat.gcd m n) (max k1 k2)) :=
  (gcdW h1.out h2.out b.1 b.2).mono fun _ _ => CNRet.of
theorem bitsC {w : World} {a1 : Option Addr} {l1 c1 m k1 : Nat} [h1 : CR w (.slice a1 l1 c1) m k1] (b : k1 ≤ 900000) :
    Calls Tryz.prog 133 #[.slice a1 l1 c1] w (fun e w' => e = .returned (.int .i64 ((nbits m : Nat) : Int)) ∧ w = w') :=
  bitsW h1.out b
theorem uintC {w : World} {a1 : Option Addr} {l1 c1 m k1 : Nat} [h1 : CR w (.slice a1 l1 c1) m k1] :
    Calls Tryz.prog 252 #[.slice a1 l1 c1] w (fun e w' => e = .returned (uintV m) ∧ w = w') :=
  uintW h1.out
theorem refNC {w : World} {a1 : Option Addr} {l1 c1 m k1 : Nat} [h1 : CR w (.slice a1 l1 c1) m k1] (b : k1 ≤ 900000) :
    Calls Tryz.prog 63 #[.slice a1 l1 c1] w (CNRet w m (k1)) :=
  (refNW h1.out b).mono fun _ _ => CNRet.of
theorem refToNC {w : World} {a1 : Option Addr} {l1 c1 m k1 : Nat} [h1 : CN w (.slice a1 l1 c1) m k1] (b : k1 ≤ 900000) :
    Calls Tryz.prog 102 #[.slice a1 l1 c1] w (CNRet w m (k1)) :=
  (refToNW h1.out b).mono fun _ _ => CNRet.of
theorem numSumC {w : World} {a1 a2 : Option Addr} {l1 c1 m l2 c2 n k1 k2 : Nat} [h1 : CN w (.slice a1 l1 c1) m k1] [h2 : CN w (.slice a2 l2 c2) n k2] (b : k1 ≤ 900000 ∧ k2 ≤ 900000) :
    Calls Tryz.prog 180 #[.slice a1 l1 c1, .slice a2 l2 c2] w (CNRet w (m + n) (max k1 k2 + 1)) :=
  (numSumW h1.out h2.out b.1 b.2).mono fun _ _ => CNRet.of
theorem numProductC {w : World} {a1 a2 : Option Addr} {l1 c1 m l2 c2 n k1 k2 : Nat} [h1 : CN w (.slice a1 l1 c1) m k1] [h2 : CN w (.slice a2 l2 c2) n k2] (b : k1 ≤ 900000 ∧ k2 ≤ 900000) :
    Calls Tryz.prog 62 #[.slice a1 l1 c1, .slice a2 l2 c2] w (CNRet w (m * n) (k1 + k2)) :=
  (numProductW h1.out h2.out b.1 b.2).mono fun _ _ => CNRet.of
theorem commonC {w : World} {a1 a2 : Option Addr} {l1 c1 m l2 c2 n k1 k2 : Nat} [h1 : CN w (.slice a1 l1 c1) m k1] [h2 : CN w (.slice a2 l2 c2) n k2] (b : k1 ≤ 200000 ∧ k2 ≤ 200000) :
    Calls Tryz.prog 138 #[.slice a1 l1 c1, .slice a2 l2 c2] w (CNRet w (Nat.gcd m n) (max k1 k2)) :=
  (commonW h1.out h2.out b.1 b.2).mono fun _ _ => CNRet.of
theorem numCmpC {w : World} {a1 a2 : Option Addr} {l1 c1 m l2 c2 n k1 k2 : Nat} [h1 : CN w (.slice a1 l1 c1) m k1] [h2 : CN w (.slice a2 l2 c2) n k2] :
    Calls Tryz.prog 139 #[.slice a1 l1 c1, .slice a2 l2 c2] w (fun e w' => e = .returned (.int .i64 (cmpN m n)) ∧ Below w.heap.size w w') :=
  numCmpW h1.out h2.out
theorem fromUintC {w : World} {x : Int} (b : 0 ≤ x ∧ x < 18446744073709551616) : Calls Tryz.prog 217 #[.int .u64 x] w (CNRet w x.toNat 2) := by
  obtain ⟨n, rfl⟩ : ∃ n : Nat, x = n := ⟨x.toNat, by omega⟩
  exact (fromUintW (x := n) (by omega)).mono fun _ _ => CNRet.of
theorem wordC {w : World} {x : Int} (b : 0 ≤ x ∧ x < 18446744073709551616) : Calls Tryz.prog 126 #[.int .u64 x] w (CNRet w x.natAbs 2) :=
  (numWordI b.1 b.2).mono fun _ _ => CNRet.of
theorem oneC {w : World} : Calls Tryz.prog 73 #[] w (CNRet w 1 1) := numOneW.mono fun _ _ => CNRet.of
theorem numLessC {w : World} {a1 a2 : Option Addr} {l1 c1 l2 c2 m n k1 k2 : Nat} [h1 : CN w (.slice a1 l1 c1) m k1] [h2 : CN w (.slice a2 l2 c2) n k2] (b : k1 ≤ 900000) (hle : n ≤ m) :
    Calls Tryz.prog 181 #[.slice a1 l1 c1, .slice a2 l2 c2] w (CNRet w (m - n) k1) := (numLessW h1.out h2.out b hle).mono fun _ _ => CNRet.of
def SgRet (w : World) (a : Option Addr) (l c : Nat) (z : Int) (k : Nat) (e : Ending) (w' : World) : Prop := ∃ g, e = .returned (.agg #[.bool g, .slice a l c]) ∧ CZ w' (.agg #[.bool g, .slice a l c]) z k ∧ Below w.heap.size w w'
theorem Calls.cSg {P : Program} {f : FuncId} {args : Array Value} {w : World} {a : Option Addr} {l c k : Nat} {z : Int} {K : Ending → World → Prop} (h : Calls P f args w (SgRet w a l c z k))
    (hK : ∀ w' [Kp1 w w'] g [CZ w' (.agg #[.bool g, .slice a l c]) z k], K (.returned (.agg #[.bool g, .slice a l c])) w') : Calls P f args w K := by
  refine h.mono ?_
  rintro e w' ⟨g, rfl, hn, hb⟩
  exact @hK w' ⟨hb⟩ g hn
def QRRet (w : World) (q r k : Nat) (e : Ending) (w' : World) : Prop := ∃ a l c a2 l2 c2, e = .returned (.tuple #[.slice a l c, .slice a2 l2 c2]) ∧ CN w' (.slice a l c) q k ∧ CN w' (.slice a2 l2 c2) r k ∧ Below w.heap.size w w'
theorem divideC {w : World} {a1 a2 : Option Addr} {l1 c1 l2 c2 m n k1 k2 : Nat} [h1 : CN w (.slice a1 l1 c1) m k1] [h2 : CN w (.slice a2 l2 c2) n k2] (b : k1 ≤ 200000 ∧ k2 ≤ 200000) (hn : n ≠ 0) :
    Calls Tryz.prog 140 #[.slice a1 l1 c1, .slice a2 l2 c2] w (QRRet w (m / n) (m % n) (k1 + 2)) := by
  refine (divideW h1.out h2.out hn b.1).mono ?_
  rintro e w' ⟨a, l, c, a2, l2, c2, rfl, q, r, hb⟩
  exact ⟨a, l, c, a2, l2, c2, rfl, ⟨q.mono (by omega)⟩, ⟨r.mono (by omega)⟩, hb⟩
theorem Calls.cQR {P : Program} {f : FuncId} {args : Array Value} {w : World} {q r k : Nat} {K : Ending → World → Prop} (h : Calls P f args w (QRRet w q r k))
    (hK : ∀ w' [Kp1 w w'] a l c a2 l2 c2 [CN w' (.slice a l c) q k] [CN w' (.slice a2 l2 c2) r k], K (.returned (.tuple #[.slice a l c, .slice a2 l2 c2])) w') : Calls P f args w K := by
  refine h.mono ?_
  rintro e w' ⟨a, l, c, a2, l2, c2, rfl, h1, h2, hb⟩
  exact @hK w' ⟨hb⟩ a l c a2 l2 c2 h1 h2
def DMRet (w : World) (q r k : Nat) (ok : Bool) (e : Ending) (w' : World) : Prop := ∃ a l c a2 l2 c2, e = .returned (.tuple #[.slice a l c, .slice a2 l2 c2, .bool ok]) ∧ CN w' (.slice a l c) q k ∧ CN w' (.slice a2 l2 c2) r k ∧ Below w.heap.size w w'
theorem divmodC {w : World} {a1 a2 : Option Addr} {l1 c1 l2 c2 m n k1 k2 : Nat} [h1 : CR w (.slice a1 l1 c1) m k1] [h2 : CR w (.slice a2 l2 c2) n k2] (b : k1 ≤ 900000) :
    Calls Tryz.prog 250 #[.slice a1 l1 c1, .slice a2 l2 c2] w (DMRet w (m / n) (if n = 0 then 0 else m % n) k1 (decide (n ≠ 0))) := by
  refine (divmodW h1.out h2.out b).mono ?_
  rintro e w' ⟨a, l, c, a2, l2, c2, rfl, q, r, hb⟩
  exact ⟨a, l, c, a2, l2, c2, rfl, ⟨q⟩, ⟨r⟩, hb⟩
theorem Calls.cDM {P : Program} {f : FuncId} {args : Array Value} {w : World} {q r k : Nat} {ok : Bool} {K : Ending → World → Prop} (h : Calls P f args w (DMRet w q r k ok))
    (hK : ∀ w' [Kp1 w w'] a l c a2 l2 c2 [CN w' (.slice a l c) q k] [CN w' (.slice a2 l2 c2) r k], K (.returned (.tuple #[.slice a l c, .slice a2 l2 c2, .bool ok])) w') : Calls P f args w K := by
  refine h.mono ?_
  rintro e w' ⟨a, l, c, a2, l2, c2, rfl, h1, h2, hb⟩
  exact @hK w' ⟨hb⟩ a l c a2 l2 c2 h1 h2
def NBRet (w : World) (n : Nat) (v : Bool) (k : Nat) (e : Ending) (w' : World) : Prop := ∃ a l c, e = .returned (.tuple #[.slice a l c, .bool v]) ∧ CN w' (.slice a l c) n k ∧ Below w.heap.size w w'
theorem Calls.cNB {P : Program} {f : FuncId} {args : Array Value} {w : World} {n k : Nat} {v : Bool} {K : Ending → World → Prop} (h : Calls P f args w (NBRet w n v k))
    (hK : ∀ w' [Kp1 w w'] a l c [CN w' (.slice a l c) n k], K (.returned (.tuple #[.slice a l c, .bool v])) w') : Calls P f args w K := by
  refine h.mono ?_
  rintro e w' ⟨a, l, c, rfl, h1, hb⟩
  exact @hK w' ⟨hb⟩ a l c h1
theorem natSubC {w : World} {a1 a2 : Option Addr} {l1 c1 l2 c2 m n k1 k2 : Nat} [h1 : CR w (.slice a1 l1 c1) m k1] [h2 : CR w (.slice a2 l2 c2) n k2] (b : k1 ≤ 900000) :
    Calls Tryz.prog 273 #[.slice a1 l1 c1, .slice a2 l2 c2] w (NBRet w (m - n) (decide (n ≤ m)) k1) :=
  (subW h1.out h2.out b).mono fun _ _ ⟨a, l, c, e, h, hb⟩ => ⟨a, l, c, e, ⟨h⟩, hb⟩
theorem SgRet.fin {w w' : World} {a : Option Addr} {l c n k : Nat} {g g' : Bool} [b : Kp w w'] [h : CN w' (.slice a l c) n k] (e : g' = (g && decide (0 < l))) : SgRet w a l c (sgn g n) k (.returned (.agg #[.bool g', .slice a l c])) w' :=
  ⟨g', rfl, ⟨⟨_, _, _, _, rfl, by subst e; exact Zz.mk' h.out⟩⟩, b.out⟩
theorem CZ.mkB {W : World} {a : Option Addr} {l c n k : Nat} {g g' : Bool} [h : CN W (.slice a l c) n k] (e : g' = (g && decide (0 < l))) : CZ W (.agg #[.bool g', .slice a l c]) (sgn g n) k := ⟨⟨_, _, _, _, rfl, by subst e; exact Zz.mk' h.out⟩⟩
theorem CZ.mkA {W : World} {a : Option Addr} {l c n k : Nat} {g : Bool} {x : Int} [h : CN W (.slice a l c) n k] (en : n = x.natAbs) (e : g = decide (x < 0)) : CZ W (.agg #[.bool g, .slice a l c]) x k := ⟨⟨_, _, _, _, rfl, e, by subst en; exact h.out⟩⟩
end
end Go.Proofs.YtdlnoeegboapkaaGreatDoor
