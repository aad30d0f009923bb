/-
  Sentinels of package api in memory, as a class: the variable g holds a pointer to an error of errors.New's make; both lie below what the world w0 held. errors.Is in these words.
-/
import Derived.Test.YtlameeijogdckaaDoorAs
import Derived.Test.YtlameeijogdckaaDoorCl0
namespace Go.Proofs.YtlameeijogdckaaDoor
open Go.RowKit

/-- The variable g holds the sentinel at a. -/
class Snt (W : World) (g : Nat) (a : outParam Addr) (w0 : outParam World) : Prop where
  cell : W.cell? ⟨g, 0, none⟩ = some (.iface 94 (.pointer (some a)))
  row : ∃ c t, W.heap[a.block]? = some (.cells c t (0, 0))
  lt : g < w0.heap.size ∧ a.block < w0.heap.size
  ltW : g < W.heap.size ∧ a.block < W.heap.size
theorem Snt.mk1 {W : World} {g : Nat} {a : Addr} (h1 : W.cell? ⟨g, 0, none⟩ = some (.iface 94 (.pointer (some a)))) (h2 : ∃ c t, W.heap[a.block]? = some (.cells c t (0, 0))) : Snt W g a W := by
  obtain ⟨c, t, h⟩ := h2
  exact ⟨h1, ⟨c, t, h⟩, ⟨lt_of_cell h1, heap_lt h⟩, ⟨lt_of_cell h1, heap_lt h⟩⟩
theorem Snt.here {W w0 : World} {g : Nat} {a : Addr} (h : Snt W g a w0) : Snt W g a W := ⟨h.cell, h.row, h.ltW, h.ltW⟩
theorem Snt.keep {W W2 w0 : World} {g : Nat} {a : Addr} (h : Snt W g a w0) (hs : W.heap.size ≤ W2.heap.size) (hg : W2.heap[g]? = W.heap[g]?) (ha : W2.heap[a.block]? = W.heap[a.block]?) : Snt W2 g a w0 := by
  refine ⟨?_, ?_, h.lt, ⟨Nat.lt_of_lt_of_le h.ltW.1 hs, Nat.lt_of_lt_of_le h.ltW.2 hs⟩⟩
  · have := h.cell
    unfold World.cell? at this ⊢
    simp only [hg]; exact this
  · rw [ha]; exact h.row
instance Snt.al {W w0 : World} {g : Nat} {a : Addr} {o : Obj} [h : Snt W g a w0] : Snt (W.alloc o) g a w0 := h.keep (by rw [World.size_alloc]; omega) (heap_al_lt h.ltW.1) (heap_al_lt h.ltW.2)
instance Snt.dr {W w0 : World} {g : Nat} {a : Addr} [h : Snt W g a w0] : Snt W.drew g a w0 := h.keep (Nat.le_refl _) rfl rfl
instance Snt.drN {W w0 : World} {g j : Nat} {a : Addr} [h : Snt W g a w0] : Snt (W.drewN j) g a w0 := h.keep (Nat.le_refl _) rfl rfl
instance (priority := low) Snt.kp {W W2 w0 : World} {g : Nat} {a : Addr} [k : Kp1 W W2] [h : Snt W g a w0] : Snt W2 g a w0 := h.keep k.out.size (k.out.block _ h.ltW.1) (k.out.block _ h.ltW.2)
instance (priority := low) Snt.md {W W2 w0 : World} {g g' : Nat} {a : Addr} [k : Md1 W W2 g'] [h : Snt W g a w0] [n : Ge w0 g'] : Snt W2 g a w0 := h.keep k.gb.size
  (k.gb.block _ h.ltW.1 (fun e => by injection e with e; have := n.out; have := h.lt.1; omega)) (k.gb.block _ h.ltW.2 (fun e => by injection e with e; have := n.out; have := h.lt.2; omega))
instance Snt.st {W w0 : World} {g q i : Nat} {a : Addr} {x : Value} [h : Snt W g a w0] [n : Ge w0 q] : Snt (W.setCell ⟨q, i, none⟩ x) g a w0 := h.keep (by rw [World.size_setCell]; omega)
  (by simp only [World.setCell, Array.getElem?_modify]; rw [if_neg (by have := n.out; have := h.lt.1; omega)])
  (by simp only [World.setCell, Array.getElem?_modify]; rw [if_neg (by have := n.out; have := h.lt.2; omega)])
/-- All blocks of the list lie behind what w0 held. -/
class GeL (w0 : World) (L : List Nat) : Prop where out : ∀ q ∈ L, w0.heap.size ≤ q
instance GeL.nil {w0 : World} : GeL w0 [] := ⟨fun _ h => nomatch h⟩
instance GeL.cons {w0 : World} {q : Nat} {L : List Nat} [h1 : Ge w0 q] [h2 : GeL w0 L] : GeL w0 (q :: L) := ⟨fun x h => by
  rcases List.mem_cons.1 h with rfl | h
  · exact h1.out
  · exact h2.out _ h⟩
instance (priority := low) Snt.ex {W0 W w0 : World} {L : List Nat} {g : Nat} {a : Addr} [e : Ex1 W0 L W] [h : Snt W0 g a w0] [n : GeL w0 L] : Snt W g a w0 := h.keep e.out.size
  (e.out.block _ h.ltW.1 (fun hm => by have := n.out _ hm; have := h.lt.1; omega)) (e.out.block _ h.ltW.2 (fun hm => by have := n.out _ hm; have := h.lt.2; omega))
@[go_sem] theorem cell_snt {W w0 : World} {g : Nat} {a : Addr} [h : Snt W g a w0] : W.cell? ⟨g, 0, none⟩ = some (.iface 94 (.pointer (some a))) := h.cell
theorem isNilC {w : World} (a : Addr) : Calls Tryd.prog 18 #[.nilIface, .iface 94 (.pointer (some a))] w fun e w' => e = .returned (.bool false) ∧ w = w' := is_nil a w
theorem isSameC {w : World} {b : Nat} {a : Addr} {l c : Int} {s : ByteArray} [h : Bx w b 45 [.iface 94 (.pointer (some a)), .int .i64 l, .int .i64 c, .string s]] :
    Calls Tryd.prog 18 #[.iface 40 (.pointer (some ⟨b, 0, none⟩)), .iface 94 (.pointer (some a))] w fun e w' => e = .returned (.bool true) ∧ w = w' :=
  is_err_same b a w (by rw [cell_bx]; rfl)
theorem isOtherC {w w1 w2 : World} {b g1 g2 : Nat} {a a2 : Addr} {l c : Int} {s : ByteArray} [h : Bx w b 45 [.iface 94 (.pointer (some a)), .int .i64 l, .int .i64 c, .string s]] (h1 : Snt w g1 a w1) (h2 : Snt w g2 a2 w2) (hne : a ≠ a2) :
    Calls Tryd.prog 18 #[.iface 40 (.pointer (some ⟨b, 0, none⟩)), .iface 94 (.pointer (some a2))] w fun e w' => e = .returned (.bool false) ∧ w = w' := by
  obtain ⟨c1, t1, e1⟩ := h1.row
  obtain ⟨c2, t2, e2⟩ := h2.row
  exact is_err_other b a2 a c1 c2 t1 t2 w (by rw [cell_bx]; rfl) hne e1 e2
end Go.Proofs.YtlameeijogdckaaDoor
