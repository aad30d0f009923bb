/-
  Rows of tokens that are read: the block at which a row lies, as a class.
-/
import Derived.Test.YtlameeijogdckaaDoorLk
namespace Go.Proofs.YtlameeijogdckaaDoor
open Go.RowKit

/-- Number k of a list of tokens. -/
def tg (L : List Tk) (k : Nat) : Tk := L.getD k ⟨0, [], 0, 0⟩
theorem tg_get {L : List Tk} {k : Nat} (h : k < L.length) : L[k]? = some (tg L k) := by unfold tg; rw [List.getD_eq_getElem?_getD, List.getElem?_eq_getElem h]; rfl
/-- The block g holds the tokens L from its first cell on; g lies below what w0 held. -/
class TkAt (W : World) (g : Nat) (L : outParam (List Tk)) (w0 : outParam World) : Prop where
  out : ∀ (i j : Nat) (t : Tk), L[i]? = some t → j < 4 → W.cell? ⟨g, i * 4 + j, none⟩ = (tkV t)[j]?
  lt : g < w0.heap.size
  ltW : g < W.heap.size
theorem TkAt.keep {W W2 w0 : World} {g : Nat} {L : List Tk} (h : TkAt W g L w0) (hs : W.heap.size ≤ W2.heap.size) (hb : W2.heap[g]? = W.heap[g]?) : TkAt W2 g L w0 := by
  refine ⟨fun i j t hi hj => ?_, h.lt, Nat.lt_of_lt_of_le h.ltW hs⟩
  rw [← h.out i j t hi hj]
  unfold World.cell?
  simp only [hb]
theorem TkAt.of {W w0 : World} {a : Option Addr} {n c : Nat} {L : List Tk} (h : CT W (.slice a n c) L w0) (h0 : L ≠ []) : ∃ g, a = some ⟨g, 0, none⟩ ∧ TkAt W g L W := by
  obtain ⟨g, rfl, hc⟩ := h.form h0
  exact ⟨g, rfl, hc, h.ltW g rfl, h.ltW g rfl⟩
instance TkAt.al {W w0 : World} {g : Nat} {L : List Tk} {o : Obj} [h : TkAt W g L w0] : TkAt (W.alloc o) g L w0 := h.keep (by rw [World.size_alloc]; omega) (heap_al_lt h.ltW)
instance TkAt.dr {W w0 : World} {g : Nat} {L : List Tk} [h : TkAt W g L w0] : TkAt W.drew g L w0 := h.keep (Nat.le_refl _) rfl
instance TkAt.drN {W w0 : World} {g j : Nat} {L : List Tk} [h : TkAt W g L w0] : TkAt (W.drewN j) g L w0 := h.keep (Nat.le_refl _) rfl
instance (priority := low) TkAt.kp {W W2 w0 : World} {g : Nat} {L : List Tk} [k : Kp1 W W2] [h : TkAt W g L w0] : TkAt W2 g L w0 := h.keep k.out.size (k.out.block _ h.ltW)
instance TkAt.st {W w0 : World} {g q i : Nat} {L : List Tk} {x : Value} [h : TkAt W g L w0] [n : Ge w0 q] : TkAt (W.setCell ⟨q, i, none⟩ x) g L w0 := h.keep (by rw [World.size_setCell]; omega)
  (by simp only [World.setCell, Array.getElem?_modify]; rw [if_neg (by have := n.out; have := h.lt; omega)])
instance (priority := low) TkAt.ex {W0 W w0 : World} {M : List Nat} {g : Nat} {L : List Tk} [e : Ex1 W0 M W] [h : TkAt W0 g L w0] [n : GeL w0 M] : TkAt W g L w0 := h.keep e.out.size
  (e.out.block _ h.ltW (fun hm => by have := n.out _ hm; have := h.lt; omega))
@[go_sem] theorem cell_tk0 {W w0 : World} {g k : Nat} {L : List Tk} [h : TkAt W g L w0] (hk : k < L.length) : W.cell? ⟨g, k * 4, none⟩ = some (.int .i64 (((tg L k).kind : Nat) : Int)) := h.out k 0 _ (tg_get hk) (by decide)
@[go_sem] theorem cell_tk1 {W w0 : World} {g k : Nat} {L : List Tk} [h : TkAt W g L w0] (hk : k < L.length) : W.cell? ⟨g, k * 4 + 1, none⟩ = some (strV (tg L k).text) := h.out k 1 _ (tg_get hk) (by decide)
@[go_sem] theorem cell_tk2 {W w0 : World} {g k : Nat} {L : List Tk} [h : TkAt W g L w0] (hk : k < L.length) : W.cell? ⟨g, k * 4 + 2, none⟩ = some (.int .i64 (((tg L k).line : Nat) : Int)) := h.out k 2 _ (tg_get hk) (by decide)
@[go_sem] theorem cell_tk3 {W w0 : World} {g k : Nat} {L : List Tk} [h : TkAt W g L w0] (hk : k < L.length) : W.cell? ⟨g, k * 4 + 3, none⟩ = some (.int .i64 (((tg L k).col : Nat) : Int)) := h.out k 3 _ (tg_get hk) (by decide)
theorem loadVar_off {P : Program} (W : World) (b off : Nat) (ty : TypeId) (vs : List Value) (d : TypeDesc) (hu : P.underlying ty = some d) (hd : (match d with | .struct _ | .array _ _ => true | _ => false) = true)
    (hi : (P.info? ty).map (·.size) = some vs.length) (hc : ∀ j (hj : j < vs.length), W.cell? ⟨b, off + j, none⟩ = some vs[j]) : (loadVar ty ⟨b, off, none⟩).run P W = .ok (.agg vs.toArray) W := by
  have hl : (loadCells ⟨b, off, none⟩ vs.length).run P W = .ok vs.toArray W :=
    run_loadCells_list (P := P) W ⟨b, off, none⟩ vs (fun j v hv => by
      have hadd : (⟨b, off, none⟩ : Addr).add j = ⟨b, off + j, none⟩ := by unfold Addr.add; split <;> simp_all
      rw [hadd]
      have hj : j < vs.length := by
        rcases Nat.lt_or_ge j vs.length with h | h
        · exact h
        · rw [List.getElem?_eq_none h] at hv; cases hv
      rw [hc j hj, ← hv, List.getElem?_eq_getElem hj])
  cases hq : P.info? ty with
  | none => simp [hq] at hi
  | some i =>
    have hs : i.size = vs.length := by simpa [hq] using hi
    have hagg : (isAgg ty).run P W = .ok true W := by
      unfold isAgg
      rw [Sem.run_bind, run_underlying hu W]
      cases d <;> simp_all
    simp [loadVar, hagg, sizeOf, typeInfo, hq, hs, hl]
@[go_sem] theorem load_tk {W w0 : World} {g k : Nat} {L : List Tk} [h : TkAt W g L w0] (hk : k < L.length) : (loadVar 36 ⟨g, k * 4, none⟩).run Tryd.prog W = .ok (.agg #[.int .i64 (((tg L k).kind : Nat) : Int), strV (tg L k).text, .int .i64 (((tg L k).line : Nat) : Int), .int .i64 (((tg L k).col : Nat) : Int)]) W :=
  loadVar_off W g (k * 4) 36 (tkV (tg L k)) _ Tryd.underlying36 rfl (by kernel_rfl) (fun j hj => by rw [h.out k j _ (tg_get hk) hj, List.getElem?_eq_getElem hj])
end Go.Proofs.YtlameeijogdckaaDoor
