/-
  Package-level variables that hold a value for good, as a class; errors.As at a target of the call's own, in these words.
-/
import Derived.Test.YtlameeijogdckaaDoorSe0
namespace Go.Proofs.YtlameeijogdckaaDoor
open Go.RowKit

/-- The variable g holds v; it lies below what the world w0 held. -/
class Gc (W : World) (g : Nat) (v : outParam Value) (w0 : outParam World) : Prop where
  cell : W.cell? ⟨g, 0, none⟩ = some v
  lt : g < w0.heap.size
  ltW : g < W.heap.size
theorem Gc.mk1 {W : World} {g : Nat} {v : Value} (h : W.cell? ⟨g, 0, none⟩ = some v) : Gc W g v W := ⟨h, lt_of_cell h, lt_of_cell h⟩
theorem Gc.here {W w0 : World} {g : Nat} {v : Value} (h : Gc W g v w0) : Gc W g v W := ⟨h.cell, h.ltW, h.ltW⟩
theorem Gc.keep {W W2 w0 : World} {g : Nat} {v : Value} (h : Gc W g v w0) (hs : W.heap.size ≤ W2.heap.size) (hg : W2.heap[g]? = W.heap[g]?) : Gc W2 g v w0 := by
  refine ⟨?_, h.lt, Nat.lt_of_lt_of_le h.ltW hs⟩
  have := h.cell
  unfold World.cell? at this ⊢
  simp only [hg]; exact this
instance Gc.al {W w0 : World} {g : Nat} {v : Value} {o : Obj} [h : Gc W g v w0] : Gc (W.alloc o) g v w0 := h.keep (by rw [World.size_alloc]; omega) (heap_al_lt h.ltW)
instance Gc.dr {W w0 : World} {g : Nat} {v : Value} [h : Gc W g v w0] : Gc W.drew g v w0 := h.keep (Nat.le_refl _) rfl
instance Gc.drN {W w0 : World} {g j : Nat} {v : Value} [h : Gc W g v w0] : Gc (W.drewN j) g v w0 := h.keep (Nat.le_refl _) rfl
instance (priority := low) Gc.kp {W W2 w0 : World} {g : Nat} {v : Value} [k : Kp1 W W2] [h : Gc W g v w0] : Gc W2 g v w0 := h.keep k.out.size (k.out.block _ h.ltW)
instance (priority := low) Gc.md {W W2 w0 : World} {g g' : Nat} {v : Value} [k : Md1 W W2 g'] [h : Gc W g v w0] [n : Ge w0 g'] : Gc W2 g v w0 := h.keep k.gb.size
  (k.gb.block _ h.ltW (fun e => by injection e with e; have := n.out; have := h.lt; omega))
instance Gc.st {W w0 : World} {g q i : Nat} {v x : Value} [h : Gc W g v w0] [n : Ge w0 q] : Gc (W.setCell ⟨q, i, none⟩ x) g v w0 := h.keep (by rw [World.size_setCell]; omega)
  (by simp only [World.setCell, Array.getElem?_modify]; rw [if_neg (by have := n.out; have := h.lt; omega)])
instance (priority := low) Gc.ex {W0 W w0 : World} {L : List Nat} {g : Nat} {v : Value} [e : Ex1 W0 L W] [h : Gc W0 g v w0] [n : GeL w0 L] : Gc W g v w0 := h.keep e.out.size
  (e.out.block _ h.ltW (fun hm => by have := n.out _ hm; have := h.lt; omega))
@[go_sem] theorem cell_gc {W w0 : World} {g : Nat} {v : Value} [h : Gc W g v w0] : W.cell? ⟨g, 0, none⟩ = some v := h.cell
/-- The variable of package errors that As looks at. -/
abbrev eTy : Value := .iface 73 (.agg #[.pointer (some ⟨10, 25, none⟩)])
def AsRet (w : World) (t e : Nat) (ev : Ending) (w' : World) : Prop :=
  ev = .returned (.bool true) ∧ Bx w' t 40 [.pointer (some ⟨e, 0, none⟩)] ∧ w.grownBy w' (some t)
theorem Calls.cAs {P : Program} {f : FuncId} {args : Array Value} {w : World} {t e : Nat} {K : Ending → World → Prop} (h : Calls P f args w (AsRet w t e))
    (hK : ∀ w' [Md1 w w' t] [Bx w' t 40 [.pointer (some ⟨e, 0, none⟩)]], K (.returned (.bool true)) w') : Calls P f args w K := by
  refine h.mono ?_
  rintro ev w' ⟨rfl, hx, hg⟩
  exact @hK w' ⟨hg⟩ hx
theorem asC {w w0 : World} {t e : Nat} {old : Value} [ht : Bx w t 40 [old]] [hg : Gc w 2 eTy w0] :
    Calls Tryd.prog 17 #[.iface 40 (.pointer (some ⟨e, 0, none⟩)), .iface 42 (.pointer (some ⟨t, 0, none⟩))] w (AsRet w t e) := by
  refine (as_hit ⟨e, 0, none⟩ ⟨t, 0, none⟩ old w hg.cell (by rw [cell_bx]; rfl) (frozen_bx (h := ht))).mono ?_
  rintro ev w' ⟨rfl, rfl⟩
  refine ⟨rfl, ?_, (inferInstance : Gb w _ t).out⟩
  exact Bx.setS (l := [old]) (h := inferInstance)
end Go.Proofs.YtlameeijogdckaaDoor
