/-
  What a walk knows of memory, as classes: boxes of the call's own with what they hold, and the order of the worlds; for programs without numbers.
  Printed by a small program (mkcl0.py).
-/
import Derived.Test.YtlameeijogdckaaDoorProg
import Derived.WalkKit
import Derived.Lib.Hide
import Derived.Maps.AppendAt
import Derived.Deep.QuietTactic
import Derived.BigQuiet
import Derived.Deep.RegionHeld3
import Derived.Deep.AppendLies
namespace Go.Proofs.YtlameeijogdckaaDoor
open Go.RowKit

theorem lt_of_cell {w : World} {a : Addr} {v : Value} (h : w.cell? a = some v) : a.block < w.heap.size := by
  rcases Nat.lt_or_ge a.block w.heap.size with hlt | hge
  · exact hlt
  · simp [World.cell?, Array.getElem?_eq_none hge] at h

theorem heap_lt {w : World} {k : Nat} {o : Obj} (h : w.heap[k]? = some o) : k < w.heap.size := by
  rcases Nat.lt_or_ge k w.heap.size with hlt | hge
  · exact hlt
  · rw [Array.getElem?_eq_none hge] at h; cases h
theorem blw_one (w : World) (o : Obj) : Below w.heap.size w (w.alloc o) := (Below.refl _ _).alloc (Nat.le_refl _) o
theorem blw_alloc {w w' : World} (h : Below w.heap.size w w') (o : Obj) : Below w.heap.size w (w'.alloc o) := h.alloc h.size o
theorem blw_drew {w W : World} (h : Below w.heap.size w W) : Below w.heap.size w W.drew := h.drew
theorem blw_drewN {B : Nat} {a w : World} (h : Below B a w) (n : Nat) : Below B a (w.drewN n) := ⟨h.os, h.tape, h.output, h.size, h.block⟩

/-! ### append -/
theorem blw_set {w W : World} {p : Addr} (x : Value) (h : Below w.heap.size w W) (hp : w.heap.size ≤ p.block) : Below w.heap.size w (W.setCell p x) := h.setCell hp x
theorem blw_trans {a b c : World} (h : Below a.heap.size a b) (k : Below b.heap.size b c) : Below a.heap.size a c := h.trans (k.mono h.size)
theorem gb_refl (w : World) (row : Option Nat) : w.grownBy w row := ⟨rfl, rfl, rfl, Nat.le_refl _, fun _ _ _ => rfl⟩
theorem blw_tp {w a b : World} {g : Nat} (h : Below w.heap.size w a) (hg : a.grownBy b (some g)) (hgw : w.heap.size ≤ g) : Below w.heap.size w b :=
  ⟨hg.os.trans h.os, hg.tape.trans h.tape, hg.output.trans h.output, Nat.le_trans h.size hg.size, fun i hi => (hg.block i (Nat.lt_of_lt_of_le hi h.size) (fun e => by injection e with e; omega)).trans (h.block i hi)⟩
theorem gb_below {a b c : World} {row : Option Nat} (h : a.grownBy b row) (k : Below b.heap.size b c) : a.grownBy c row :=
  ⟨k.os.trans h.os, k.tape.trans h.tape, k.output.trans h.output, Nat.le_trans h.size k.size, fun i hi hr => (k.block i (Nat.lt_of_lt_of_le hi h.size)).trans (h.block i hi hr)⟩
theorem gb_al {w W : World} {g : Nat} {o : Obj} (h : w.grownBy W (some g)) : w.grownBy (W.alloc o) (some g) := gb_below h (blw_one _ _)
theorem gb_dr {w W : World} {g : Nat} (h : w.grownBy W (some g)) : w.grownBy W.drew (some g) := gb_below h (blw_drew (Below.refl _ _))
theorem gb_drN {w W : World} {g j : Nat} (h : w.grownBy W (some g)) : w.grownBy (W.drewN j) (some g) := gb_below h (blw_drewN (Below.refl _ _) j)
theorem gb_keep2 {w W W2 : World} {g : Nat} (hb : Below W.heap.size W W2) (h : w.grownBy W (some g)) : w.grownBy W2 (some g) := gb_below h hb
theorem gb_trans {a b c : World} {row : Option Nat} (h : a.grownBy b row) (k : b.grownBy c row) : a.grownBy c row :=
  ⟨k.os.trans h.os, k.tape.trans h.tape, k.output.trans h.output, Nat.le_trans h.size k.size, fun i hi hr => (k.block i (Nat.lt_of_lt_of_le hi h.size) hr).trans (h.block i hi hr)⟩
theorem gb_tp2 {w W W2 : World} {g : Nat} (hg : W.grownBy W2 (some g)) (h : w.grownBy W (some g)) : w.grownBy W2 (some g) := gb_trans h hg
theorem gb_set {w W : World} {g : Nat} {p : Addr} {x : Value} (hp : w.heap.size ≤ p.block) (h : w.grownBy W (some g)) : w.grownBy (W.setCell p x) (some g) :=
  ⟨h.os, h.tape, h.output, by simpa using h.size, fun i hi hne => by rw [Below.heap_setCell _ _ _ _ (by omega)]; exact h.block i hi hne⟩
theorem ite_none {c : Option Bool} {b : Bool} {P Q : Prop} [Decidable (c = some b)] (hc : c = none) (h : Q) : if c = some b then P else Q := by
  rw [if_neg (by rw [hc]; exact fun e => nomatch e)]; exact h
theorem loadVar_at {P : Program} (W : World) (b : Nat) (ty : TypeId) (vs : List Value) (d : TypeDesc) (hu : P.underlying ty = some d) (hd : (match d with | .struct _ | .array _ _ => true | _ => false) = true)
    (hi : (P.info? ty).map (·.size) = some vs.length) (hc : ∀ j (hj : j < vs.length), W.cell? ⟨b, j, none⟩ = some vs[j]) : (loadVar ty ⟨b, 0, none⟩).run P W = .ok (.agg vs.toArray) W := by
  have hl : (loadCells ⟨b, 0, none⟩ vs.length).run P W = .ok vs.toArray W :=
    run_loadCells_list (P := P) W ⟨b, 0, none⟩ vs (fun j v hv => by
      have hadd : (⟨b, 0, none⟩ : Addr).add j = ⟨b, j, none⟩ := by unfold Addr.add; split <;> simp_all
      rw [hadd]
      have hj : j < vs.length := by
        rcases Nat.lt_or_ge j vs.length with h | h
        · exact h
        · rw [List.getElem?_eq_none h] at hv; cases hv
      rw [hc j hj, ← hv, List.getElem?_eq_getElem hj])
  cases hq : P.info? ty with
  | none => simp [hq] at hi
  | some i =>
    have hs : i.size = vs.length := by simpa [hq] using hi
    have hagg : (isAgg ty).run P W = .ok true W := by
      unfold isAgg
      rw [Sem.run_bind, run_underlying hu W]
      cases d <;> simp_all
    simp [loadVar, hagg, sizeOf, typeInfo, hq, hs, hl]
theorem ret_c {P : Program} {fn : Func} {R : Ending → World → Prop} {a : Act} {W : World} {p : Tmp} {ty : TypeId} {b1 : Nat} {v1 : Value} (hr : fn.results = #[.cell p ty])
    (hp : a.tmps.getD p undef = .pointer (some ⟨b1, 0, none⟩)) (h1 : (loadVar ty ⟨b1, 0, none⟩).run P W = .ok v1 W)
    (hdf : a.defers = []) (hR : R (.returned v1) W) : bodyPost P fn R .ret a W := by
  refine ⟨hdf, _, ?_, hR⟩
  have hp' : a.tmps[p]?.getD undef = .pointer (some ⟨b1, 0, none⟩) := by simpa using hp
  simp [results, hr, hp', asAddr, h1]

/-! ### readings are kept -/
/-- From W to W2 only new memory was written. -/
class Kp1 (W : outParam World) (W2 : World) : Prop where out : Below W.heap.size W W2
/-- From W to W2 the block g was written; else only new memory. -/
class Md1 (W : outParam World) (W2 : World) (g : outParam Nat) : Prop where
  gb : W.grownBy W2 (some g)
/-- The number of blocks. -/
class Sz (W : World) (b : outParam Nat) : Prop where out : W.heap.size = b
instance (priority := low) Sz.base {W : World} : Sz W W.heap.size := ⟨rfl⟩
instance Sz.al {W : World} {b : Nat} {o : Obj} [h : Sz W b] : Sz (W.alloc o) (b + 1) := ⟨by rw [World.size_alloc, h.out]⟩
instance Sz.dr {W : World} {b : Nat} [h : Sz W b] : Sz W.drew b := ⟨h.out⟩
instance Sz.drN {W : World} {b j : Nat} [h : Sz W b] : Sz (W.drewN j) b := ⟨h.out⟩
instance Sz.st {W : World} {b : Nat} {p : Addr} {x : Value} [h : Sz W b] : Sz (W.setCell p x) b := ⟨by rw [World.size_setCell, h.out]⟩
/-- a is less than b. -/
class LtN (a b : Nat) : Prop where out : a < b
class NeN (a b : Nat) : Prop where out : a ≠ b
instance LtN.one {a : Nat} : LtN a (a + 1) := ⟨Nat.lt_succ_self a⟩
instance (priority := low) LtN.step {a b : Nat} [h : LtN a b] : LtN a (b + 1) := ⟨Nat.lt_succ_of_lt h.out⟩
instance NeN.l {a b : Nat} [h : LtN a b] : NeN a b := ⟨Nat.ne_of_lt h.out⟩
instance NeN.r {a b : Nat} [h : LtN b a] : NeN a b := ⟨Nat.ne_of_gt h.out⟩
theorem heap_al_lt {W : World} {o : Obj} {b : Nat} (h : b < W.heap.size) : (W.alloc o).heap[b]? = W.heap[b]? := by
  simp only [World.alloc, Array.getElem?_push]; rw [if_neg (by omega)]
theorem heap_al_new {W : World} {o : Obj} : (W.alloc o).heap[W.heap.size]? = some o := by
  show (W.heap.push o)[W.heap.size]? = some o
  simp
/-- The box b holds the cells l; it is of type t. -/
class Bx (W : World) (b : Nat) (t : outParam TypeId) (l : outParam (List Value)) : Prop where out : W.heap[b]? = some (.cells l.toArray t (0, 0))
theorem Bx.lt {W : World} {b : Nat} {t : TypeId} {l : List Value} (h : Bx W b t l) : b < W.heap.size := heap_lt h.out
instance Bx.new {W : World} {b : Nat} {t : TypeId} {l : List Value} [h : Sz W b] : Bx (W.alloc (.cells l.toArray t (0, 0))) b t l := ⟨by rw [← h.out]; exact heap_al_new⟩
instance (priority := low) Bx.al {W : World} {b : Nat} {t : TypeId} {l : List Value} {o : Obj} [h : Bx W b t l] : Bx (W.alloc o) b t l := ⟨by rw [heap_al_lt h.lt]; exact h.out⟩
instance Bx.dr {W : World} {b : Nat} {t : TypeId} {l : List Value} [h : Bx W b t l] : Bx W.drew b t l := ⟨h.out⟩
instance Bx.drN {W : World} {b j : Nat} {t : TypeId} {l : List Value} [h : Bx W b t l] : Bx (W.drewN j) b t l := ⟨h.out⟩
instance Bx.kp {W W2 : World} {b : Nat} {t : TypeId} {l : List Value} [k : Kp1 W W2] [h : Bx W b t l] : Bx W2 b t l := ⟨by rw [k.out.block b h.lt]; exact h.out⟩
instance (priority := low) Bx.md {W W2 : World} {b g : Nat} {t : TypeId} {l : List Value} [k : Md1 W W2 g] [n : NeN g b] [h : Bx W b t l] : Bx W2 b t l := ⟨by
  rw [k.gb.block b h.lt (fun e => by injection e with e; exact n.out e.symm)]; exact h.out⟩
instance (priority := low) Bx.setO {W : World} {b q i : Nat} {x : Value} {t : TypeId} {l : List Value} [h : Bx W b t l] [n : NeN q b] : Bx (W.setCell ⟨q, i, none⟩ x) b t l := ⟨by
  simp only [World.setCell, Array.getElem?_modify]
  rw [if_neg n.out]; exact h.out⟩
instance Bx.setS {W : World} {b i : Nat} {x : Value} {t : TypeId} {l : List Value} [h : Bx W b t l] : Bx (W.setCell ⟨b, i, none⟩ x) b t (l.set i x) := ⟨by
  simp only [World.setCell, Array.getElem?_modify, if_pos]
  rw [h.out]; simp⟩
instance LtN.bx {W : World} {b : Nat} {t : TypeId} {l : List Value} [h : Bx W b t l] : LtN b W.heap.size := ⟨h.lt⟩
@[go_sem] theorem cell_bx {W : World} {b i : Nat} {t : TypeId} {l : List Value} [h : Bx W b t l] : W.cell? ⟨b, i, none⟩ = l[i]? := by
  simp [World.cell?, h.out]
@[go_sem] theorem frozen_bx {W : World} {b i : Nat} {t : TypeId} {l : List Value} [h : Bx W b t l] : W.frozen? ⟨b, i, none⟩ = false := by
  simp [World.frozen?, h.out]
/-- All new memory lies from w's end on. -/
class Kp (w W : World) : Prop where out : Below w.heap.size w W
class Ge (w : World) (b : Nat) : Prop where out : w.heap.size ≤ b
instance Ge.base {w : World} : Ge w w.heap.size := ⟨Nat.le_refl _⟩
instance Ge.step {w : World} {b : Nat} [h : Ge w b] : Ge w (b + 1) := ⟨Nat.le_succ_of_le h.out⟩
instance (priority := low) Ge.sz {w : World} {b : Nat} [h : Sz w b] : Ge w b := ⟨Nat.le_of_eq h.out⟩
instance (priority := low) Ge.kp {w W : World} [h : Kp w W] : Ge w W.heap.size := ⟨h.out.size⟩
instance Kp.refl {w : World} : Kp w w := ⟨Below.refl _ _⟩
instance Kp.al {w W : World} {o : Obj} [h : Kp w W] : Kp w (W.alloc o) := ⟨blw_alloc h.out o⟩
instance Kp.dr {w W : World} [h : Kp w W] : Kp w W.drew := ⟨blw_drew h.out⟩
instance Kp.drN {w W : World} {j : Nat} [h : Kp w W] : Kp w (W.drewN j) := ⟨blw_drewN h.out j⟩
instance Kp.st {w W : World} {q i : Nat} {x : Value} [h : Kp w W] [g : Ge w q] : Kp w (W.setCell ⟨q, i, none⟩ x) := ⟨blw_set x h.out g.out⟩
instance (priority := low) Kp.kp {w W W2 : World} [k : Kp1 W W2] [h : Kp w W] : Kp w W2 := ⟨blw_trans h.out k.out⟩
instance (priority := low) Kp.md {w W W2 : World} {g : Nat} [k : Md1 W W2 g] [h : Kp w W] [n : Ge w g] : Kp w W2 := ⟨blw_tp h.out k.gb n.out⟩
/-- From w on, the tape g apart, only new memory was written. -/
class Gb (w W : World) (g : Nat) : Prop where out : w.grownBy W (some g)
instance Gb.refl {w : World} {g : Nat} : Gb w w g := ⟨gb_refl _ _⟩
instance Gb.al {w W : World} {g : Nat} {o : Obj} [h : Gb w W g] : Gb w (W.alloc o) g := ⟨gb_al h.out⟩
instance Gb.dr {w W : World} {g : Nat} [h : Gb w W g] : Gb w W.drew g := ⟨gb_dr h.out⟩
instance Gb.drN {w W : World} {g j : Nat} [h : Gb w W g] : Gb w (W.drewN j) g := ⟨gb_drN h.out⟩
instance (priority := low) Gb.kp {w W W2 : World} {g : Nat} [k : Kp1 W W2] [h : Gb w W g] : Gb w W2 g := ⟨gb_keep2 k.out h.out⟩
instance (priority := low) Gb.md {w W W2 : World} {g : Nat} [k : Md1 W W2 g] [h : Gb w W g] : Gb w W2 g := ⟨gb_tp2 k.gb h.out⟩
/-- There are no fewer blocks. -/
class Kz (w W : World) : Prop where out : w.heap.size ≤ W.heap.size
instance Kz.refl {w : World} : Kz w w := ⟨Nat.le_refl _⟩
instance Kz.al {w W : World} {o : Obj} [h : Kz w W] : Kz w (W.alloc o) := ⟨by rw [World.size_alloc]; exact Nat.le_succ_of_le h.out⟩
instance Kz.dr {w W : World} [h : Kz w W] : Kz w W.drew := ⟨h.out⟩
instance Kz.drN {w W : World} {j : Nat} [h : Kz w W] : Kz w (W.drewN j) := ⟨h.out⟩
instance Kz.st {w W : World} {p : Addr} {x : Value} [h : Kz w W] : Kz w (W.setCell p x) := ⟨by rw [World.size_setCell]; exact h.out⟩
instance (priority := low) Kz.kp {w W W2 : World} [k : Kp1 W W2] [h : Kz w W] : Kz w W2 := ⟨Nat.le_trans h.out k.out.size⟩
instance (priority := low) Kz.md {w W W2 : World} {g : Nat} [k : Md1 W W2 g] [h : Kz w W] : Kz w W2 := ⟨Nat.le_trans h.out k.gb.size⟩
class Gg (w : World) (b : Nat) : Prop where out : w.heap.size ≤ b
instance Gg.base {w : World} : Gg w w.heap.size := ⟨Nat.le_refl _⟩
instance Gg.step {w : World} {b : Nat} [h : Gg w b] : Gg w (b + 1) := ⟨Nat.le_succ_of_le h.out⟩
instance (priority := low) Gg.sz {w : World} {b : Nat} [h : Sz w b] : Gg w b := ⟨Nat.le_of_eq h.out⟩
instance (priority := low) Gg.gb {w W : World} [h : Kz w W] : Gg w W.heap.size := ⟨h.out⟩
instance Gb.st {w W : World} {g q i : Nat} {x : Value} [h : Gb w W g] [n : Gg w q] : Gb w (W.setCell ⟨q, i, none⟩ x) g := ⟨gb_set n.out h.out⟩
/-- W is as W0 was in the blocks that were there, but for those of L. -/
class Ex (W0 : World) (L : List Nat) (W : World) : Prop where
  size : W0.heap.size ≤ W.heap.size
  block : ∀ k, k < W0.heap.size → k ∉ L → W.heap[k]? = W0.heap[k]?
/-- The same as a fact of the walk. -/
class Ex1 (W0 : outParam World) (L : outParam (List Nat)) (W : World) : Prop where out : Ex W0 L W
class InL (q : Nat) (L : List Nat) : Prop where out : q ∈ L
instance InL.hd {q : Nat} {L : List Nat} : InL q (q :: L) := ⟨List.mem_cons_self ..⟩
instance (priority := low) InL.tl {q x : Nat} {L : List Nat} [h : InL q L] : InL q (x :: L) := ⟨List.mem_cons_of_mem _ h.out⟩
class NoL (q : Nat) (L : List Nat) : Prop where out : q ∉ L
instance NoL.nil {q : Nat} : NoL q [] := ⟨fun h => nomatch h⟩
instance NoL.cons {q x : Nat} {L : List Nat} [h1 : NeN q x] [h2 : NoL q L] : NoL q (x :: L) := ⟨fun h => (List.mem_cons.1 h).elim h1.out h2.out⟩
instance Ex.refl {W : World} {L : List Nat} : Ex W L W := ⟨Nat.le_refl _, fun _ _ _ => rfl⟩
instance Ex.dr {W0 W : World} {L : List Nat} [h : Ex W0 L W] : Ex W0 L W.drew := ⟨h.size, h.block⟩
instance Ex.drN {W0 W : World} {L : List Nat} {j : Nat} [h : Ex W0 L W] : Ex W0 L (W.drewN j) := ⟨h.size, h.block⟩
instance Ex.al {W0 W : World} {L : List Nat} {o : Obj} [h : Ex W0 L W] : Ex W0 L (W.alloc o) :=
  ⟨by rw [World.size_alloc]; exact Nat.le_succ_of_le h.size, fun k hk hL => by rw [heap_al_lt (Nat.lt_of_lt_of_le hk h.size)]; exact h.block k hk hL⟩
instance (priority := low) Ex.kp {W0 W W2 : World} {L : List Nat} [k : Kp1 W W2] [h : Ex W0 L W] : Ex W0 L W2 :=
  ⟨Nat.le_trans h.size k.out.size, fun j hj hL => by rw [k.out.block j (Nat.lt_of_lt_of_le hj h.size)]; exact h.block j hj hL⟩
instance (priority := low) Ex.md {W0 W W2 : World} {g : Nat} {L : List Nat} [k : Md1 W W2 g] [n : InL g L] [h : Ex W0 L W] : Ex W0 L W2 :=
  ⟨Nat.le_trans h.size k.gb.size, fun j hj hL => by
    rw [k.gb.block j (Nat.lt_of_lt_of_le hj h.size) (fun e => by injection e with e; subst e; exact hL n.out)]; exact h.block j hj hL⟩
instance Ex.st {W0 W : World} {L : List Nat} {q i : Nat} {x : Value} [n : InL q L] [h : Ex W0 L W] : Ex W0 L (W.setCell ⟨q, i, none⟩ x) :=
  ⟨by rw [World.size_setCell]; exact h.size, fun k hk hL => by
    simp only [World.setCell, Array.getElem?_modify]
    rw [if_neg (fun e => hL (by rw [← e]; exact n.out))]; exact h.block k hk hL⟩
instance (priority := low) Ex.st2 {W0 W : World} {L : List Nat} {q i : Nat} {x : Value} [n : Gg W0 q] [h : Ex W0 L W] : Ex W0 L (W.setCell ⟨q, i, none⟩ x) :=
  ⟨by rw [World.size_setCell]; exact h.size, fun k hk hL => by
    simp only [World.setCell, Array.getElem?_modify]
    rw [if_neg (fun e => by have := n.out; omega)]; exact h.block k hk hL⟩
instance (priority := low) Bx.ex {W0 W : World} {L : List Nat} {b : Nat} {t : TypeId} {l : List Value} [e : Ex1 W0 L W] [n : NoL b L] [h : Bx W0 b t l] : Bx W b t l := ⟨by
  rw [e.out.block b h.lt n.out]; exact h.out⟩
/-- A region that draws its order: what was there stays as it was, but for the blocks of L. -/
theorem region_cls {P : Program} {ops : Array Oper} {Q : Exit → Act → World → Prop} {id : Nat} {a : Act} {w : World} (hm : P.follows .mixedOrders = true) (L : List Nat)
    (h : Ex w L w.drew → wpAnyH P .any ops Q (Ex w L) ops.size (Array.replicate ops.size false) a w.drew) : (Code.region id ops true).wp P Q a w :=
  wp_region_held_drew (S := Ex w L) hm Ex.dr h
/-- The end of a walk: the struct that lies in the result's box is returned. -/
theorem ret_bx {P : Program} {fn : Func} {R : Ending → World → Prop} {a : Act} {W : World} {b : Nat} {p : Tmp} {ty t : TypeId} {d : TypeDesc} {l l' : List Value} [hb : Bx W b t l] (hr : fn.results = #[.cell p ty])
    (hu : P.underlying ty = some d) (hd : (match d with | .struct _ | .array _ _ => true | _ => false) = true) (hi : (P.info? ty).map (·.size) = some l.length)
    (hp : a.tmps.getD p undef = .pointer (some ⟨b, 0, none⟩)) (hdf : a.defers = []) (hl : l = l') (hR : R (.returned (.agg l'.toArray)) W) : bodyPost P fn R .ret a W := by
  subst hl
  refine ret_c hr hp (loadVar_at W b ty l d hu hd hi (fun j hj => ?_)) hdf hR
  rw [cell_bx, List.getElem?_eq_getElem hj]
theorem Calls.kE {P : Program} {f : FuncId} {args : Array Value} {w : World} {v : Value} {K : Ending → World → Prop} (h : Calls P f args w (fun e w' => e = .returned v ∧ Below w.heap.size w w'))
    (hK : ∀ w', Below w.heap.size w w' → w.heap.size ≤ w'.heap.size → K (.returned (v)) w') : Calls P f args w K := by
  refine h.mono ?_
  rintro e w' ⟨rfl, hb⟩
  exact hK w' hb hb.size
theorem Calls.kS {P : Program} {f : FuncId} {args : Array Value} {w : World} {v : Value} {K : Ending → World → Prop} (h : Calls P f args w (fun e w' => e = .returned v ∧ w = w'))
    (hK : K (.returned v) w) : Calls P f args w K := by
  refine h.mono ?_
  rintro e w' ⟨rfl, rfl⟩
  exact hK
theorem Calls.cE {P : Program} {f : FuncId} {args : Array Value} {w : World} {v : Value} {K : Ending → World → Prop} (h : Calls P f args w (fun e w' => e = .returned v ∧ Below w.heap.size w w'))
    (hK : ∀ w' [Kp1 w w'], K (.returned v) w') : Calls P f args w K := by
  refine h.mono ?_
  rintro e w' ⟨rfl, hb⟩
  exact @hK w' ⟨hb⟩
theorem Calls.cS {P : Program} {f : FuncId} {args : Array Value} {w : World} {v : Value} {K : Ending → World → Prop} (h : Calls P f args w (fun e w' => e = .returned v ∧ w = w')) (hK : K (.returned v) w) : Calls P f args w K := Calls.kS h hK
theorem E.fin {w w' : World} {v v' : Value} [b : Kp w w'] (e : v = v') : (fun e w' => e = Ending.returned v' ∧ Below w.heap.size w w') (.returned v) w' := by
  subst e; exact ⟨rfl, b.out⟩
instance Gb.stS {w W : World} {g i : Nat} {x : Value} [h : Gb w W g] : Gb w (W.setCell ⟨g, i, none⟩ x) g :=
  ⟨⟨h.out.os, h.out.tape, h.out.output, by rw [World.size_setCell]; exact h.out.size, fun k hk hne => by
    simp only [World.setCell, Array.getElem?_modify]
    rw [if_neg (fun e => hne (by rw [← e]))]; exact h.out.block k hk hne⟩⟩
end Go.Proofs.YtlameeijogdckaaDoor
