/-
  Rows of the call's own that grow by append, as a class; what an append leaves as it was.
-/
import Derived.Test.YtlameeijogdckaaDoorAs2
import Derived.Laws.AppendOwn
namespace Go.Proofs.YtlameeijogdckaaDoor
open Go.RowKit

/-- The slice v is a row of the call's own, of n elements of sz cells each; its block lies from base on, and below what w0 held. -/
class Rw (W : World) (v : Value) (e : outParam TypeId) (sz : outParam Nat) (n : outParam Nat) (xs : outParam (List Value)) (base : outParam Nat) (w0 : outParam World) : Prop where
  out : W.ownsRow base e sz v n xs
  lt : ∀ g, v.ownBlock = some g → g < w0.heap.size
  ltW : ∀ g, v.ownBlock = some g → g < W.heap.size
  hb : base ≤ W.heap.size
theorem Rw.mk1 {W : World} {v : Value} {e : TypeId} {sz n base : Nat} {xs : List Value} (h : W.ownsRow base e sz v n xs) (hb : base ≤ W.heap.size) : Rw W v e sz n xs base W := ⟨h, fun g e => (h.lt g e).2, fun g e => (h.lt g e).2, hb⟩
theorem Rw.here {W w0 : World} {v : Value} {e : TypeId} {sz n base : Nat} {xs : List Value} (h : Rw W v e sz n xs base w0) : Rw W v e sz n xs base W := ⟨h.out, h.ltW, h.ltW, h.hb⟩
theorem Rw.nil {W : World} {e : TypeId} {sz base : Nat} (hb : base ≤ W.heap.size) : Rw W (.slice none 0 0) e sz 0 [] base W := Rw.mk1 (World.ownsRow_nil _ _ _ _) hb
theorem Rw.keep {W W2 w0 : World} {v : Value} {e : TypeId} {sz n base : Nat} {xs : List Value} (h : Rw W v e sz n xs base w0) (hs : W.heap.size ≤ W2.heap.size) (hb : ∀ g, v.ownBlock = some g → W2.heap[g]? = W.heap[g]?) : Rw W2 v e sz n xs base w0 := by
  refine ⟨?_, h.lt, fun g e => Nat.lt_of_lt_of_le (h.ltW g e) hs, Nat.le_trans h.hb hs⟩
  obtain ⟨h1, h2⟩ := h.out
  refine ⟨h1, ?_⟩
  rcases h2 with hn | ⟨g, cap, cur, rfl, hbg, hgg, rest⟩
  · exact .inl hn
  · exact .inr ⟨g, cap, cur, rfl, hbg, by rw [hb g rfl]; exact hgg, rest⟩
instance Rw.al {W w0 : World} {v : Value} {e : TypeId} {sz n base : Nat} {xs : List Value} {o : Obj} [h : Rw W v e sz n xs base w0] : Rw (W.alloc o) v e sz n xs base w0 := h.keep (by rw [World.size_alloc]; omega) (fun g e => heap_al_lt (h.ltW g e))
instance Rw.dr {W w0 : World} {v : Value} {e : TypeId} {sz n base : Nat} {xs : List Value} [h : Rw W v e sz n xs base w0] : Rw W.drew v e sz n xs base w0 := h.keep (Nat.le_refl _) (fun _ _ => rfl)
instance Rw.drN {W w0 : World} {v : Value} {e : TypeId} {sz n base : Nat} {xs : List Value} {j : Nat} [h : Rw W v e sz n xs base w0] : Rw (W.drewN j) v e sz n xs base w0 := h.keep (Nat.le_refl _) (fun _ _ => rfl)
instance (priority := low) Rw.kp {W W2 w0 : World} {v : Value} {e : TypeId} {sz n base : Nat} {xs : List Value} [k : Kp1 W W2] [h : Rw W v e sz n xs base w0] : Rw W2 v e sz n xs base w0 := h.keep k.out.size (fun g e => k.out.block _ (h.ltW g e))
instance (priority := low) Rw.md {W W2 w0 : World} {v : Value} {e : TypeId} {sz n base : Nat} {xs : List Value} {q : Nat} [k : Md1 W W2 q] [h : Rw W v e sz n xs base w0] [l : LtN q base] : Rw W2 v e sz n xs base w0 := h.keep k.gb.size
  (fun g e => k.gb.block _ (h.ltW g e) (fun x => by injection x with x; have := l.out; have := (h.out.lt g e).1; omega))
instance Rw.st {W w0 : World} {v : Value} {e : TypeId} {sz n base : Nat} {xs : List Value} {q i : Nat} {x : Value} [h : Rw W v e sz n xs base w0] [l : Ge w0 q] : Rw (W.setCell ⟨q, i, none⟩ x) v e sz n xs base w0 := h.keep (by rw [World.size_setCell]; omega)
  (fun g e => by simp only [World.setCell, Array.getElem?_modify]; rw [if_neg (by have := l.out; have := h.lt g e; omega)])
instance Rw.st2 {W w0 : World} {v : Value} {e : TypeId} {sz n base : Nat} {xs : List Value} {q i : Nat} {x : Value} [h : Rw W v e sz n xs base w0] [l : LtN q base] : Rw (W.setCell ⟨q, i, none⟩ x) v e sz n xs base w0 := h.keep (by rw [World.size_setCell]; omega)
  (fun g e => by simp only [World.setCell, Array.getElem?_modify]; rw [if_neg (by have := l.out; have := (h.out.lt g e).1; omega)])
instance (priority := low) Rw.ex {W0 W w0 : World} {L : List Nat} {v : Value} {e : TypeId} {sz n base : Nat} {xs : List Value} [k : Ex1 W0 L W] [h : Rw W0 v e sz n xs base w0] [l : GeL w0 L] : Rw W v e sz n xs base w0 := h.keep k.out.size
  (fun g e => k.out.block _ (h.ltW g e) (fun hm => by have := l.out _ hm; have := h.lt g e; omega))
theorem Rw.cast {W w0 : World} {v : Value} {e : TypeId} {sz n n' base : Nat} {xs xs' : List Value} (h : Rw W v e sz n xs base w0) (e1 : n = n') (e2 : xs = xs') : Rw W v e sz n' xs' base w0 := by subst e1; subst e2; exact h
/-- From W to W2 a row has been appended to: its block lies from base on and below what w0 held; else only new memory was written. -/
class Ap1 (W : outParam World) (W2 : World) (base : outParam Nat) (w0 : outParam World) : Prop where out : ∃ row : Option Nat, W.grownBy W2 row ∧ ∀ k, row = some k → base ≤ k ∧ k < w0.heap.size
theorem Ap1.size {W W2 w0 : World} {base : Nat} (h : Ap1 W W2 base w0) : W.heap.size ≤ W2.heap.size := by obtain ⟨_, h, _⟩ := h.out; exact h.size
theorem Ap1.block {W W2 w0 : World} {base : Nat} (h : Ap1 W W2 base w0) {b : Nat} (hb : b < W.heap.size) (hn : b < base ∨ w0.heap.size ≤ b) : W2.heap[b]? = W.heap[b]? := by
  obtain ⟨row, h, hk⟩ := h.out
  exact h.block b hb (fun e => by have := hk b e.symm; omega)
instance (priority := low) Bx.ap {W W2 w0 : World} {base b : Nat} {t : TypeId} {l : List Value} [k : Ap1 W W2 base w0] [h : Bx W b t l] [n : LtN b base] : Bx W2 b t l := ⟨by rw [k.block h.lt (.inl n.out)]; exact h.out⟩
instance (priority := low) Bx.ap2 {W W2 w0 : World} {base b : Nat} {t : TypeId} {l : List Value} [k : Ap1 W W2 base w0] [h : Bx W b t l] [n : Ge w0 b] : Bx W2 b t l := ⟨by rw [k.block h.lt (.inr n.out)]; exact h.out⟩
instance (priority := low) Kp.ap {w W W2 w0 : World} {base : Nat} [k : Ap1 W W2 base w0] [h : Kp w W] [n : Ge w base] : Kp w W2 := ⟨by
  obtain ⟨row, hg, hk⟩ := k.out
  exact h.out.grown hg h.out.size (fun x e => Nat.le_trans n.out (hk x e).1)⟩
instance (priority := low) Kz.ap {w W W2 w0 : World} {base : Nat} [k : Ap1 W W2 base w0] [h : Kz w W] : Kz w W2 := ⟨Nat.le_trans h.out k.size⟩
instance (priority := low) Snt.ap {W W2 w0 w1 : World} {base g : Nat} {a : Addr} [k : Ap1 W W2 base w0] [h : Snt W g a w1] [n : Ge w1 base] : Snt W2 g a w1 := h.keep k.size (k.block h.ltW.1 (.inl (Nat.lt_of_lt_of_le h.lt.1 n.out))) (k.block h.ltW.2 (.inl (Nat.lt_of_lt_of_le h.lt.2 n.out)))
instance (priority := low) Gc.ap {W W2 w0 w1 : World} {base g : Nat} {v : Value} [k : Ap1 W W2 base w0] [h : Gc W g v w1] [n : Ge w1 base] : Gc W2 g v w1 := h.keep k.size (k.block h.ltW (.inl (Nat.lt_of_lt_of_le h.lt n.out)))
/-- append of one element that lies in a box. -/
theorem app_rw {W w0 : World} {ops : Array Oper} {rest : List Oper} {o : Oper} {a : Act} {Q : Exit → Act → World → Prop} (hg : o.guard = none) (s x : Operand) (t : TypeId)
    (hop : o.op = .call { callee := .builtin .append, args := #[s, x], argTypes := #[t, t] }) {e : TypeId} (ht : Tryd.prog.underlying t = some (.slice e)) {z : Value} {sz bt : Nat}
    (hi : (Tryd.prog.info? e).map (fun i => (i.zero, i.size, i.bytes)) = some (some z, sz, bt)) (hzs : z.cells.size = sz) (hsz : 0 < sz) (hbt : bt ≤ 1000) {v : Value} {n : Nat} {xs : List Value} {base : Nat} (hs : a.eval s = v) [hr : Rw W v e sz n xs base w0]
    {q : Nat} {ety : TypeId} {l : List Value} (hx : a.eval x = .slice (some ⟨q, 0, none⟩) 1 1) [hb : Bx W q ety l] (hl : l.length = sz) (h1 : ∀ u ∈ l, u.oneCell' = true) (hn : n ≤ 1000000)
    (hK : ∀ g c W' [Ap1 W W' base w0] [Rw W' (.slice (some ⟨g, 0, none⟩) (n + 1) c) e sz (n + 1) (xs ++ l) base W'], wpList Tryd.prog ops Q rest (a.put o.dst (.slice (some ⟨g, 0, none⟩) (n + 1) c)) W') :
    wpList Tryd.prog ops Q (o :: rest) a W := by
  obtain ⟨i0, hi0⟩ : ∃ i0, Tryd.prog.info? e = some i0 := by
    cases h : Tryd.prog.info? e with
    | none => rw [h] at hi; cases hi
    | some i0 => exact ⟨i0, rfl⟩
  rw [hi0] at hi
  simp only [Option.map_some, Option.some.injEq, Prod.mk.injEq] at hi
  obtain ⟨hz0, hz1, hz2⟩ := hi
  refine wpList_append_own _ hg s x t hop base e i0 z sz bt ht hi0 hz0 hz1 hz2 hzs hsz v n xs hs hr.out ⟨q, 0, none⟩ 1 1 l hx (by omega) (fun j u hu => ?_) h1 (by unfold maxLen; omega) ?_ hr.hb ?_
  · have hadd : (⟨q, 0, none⟩ : Addr).add j = ⟨q, j, none⟩ := by unfold Addr.add; split <;> simp_all
    rw [hadd, cell_bx]; exact hu
  · have : (n + 1) * bt ≤ 1000001 * 1000 := Nat.mul_le_mul (by omega) hbt
    omega
  · intro v' w' h2 h3 h4
    have hne : v' ≠ .slice none 0 0 := fun e => absurd (h4.1 e).2 (by decide)
    rcases h2.2 with ⟨e', _⟩ | ⟨g, cap, cur, e', _⟩
    · exact absurd e' hne
    · subst e'
      have i1 : Ap1 W w' base w0 := ⟨⟨_, h3, fun k hk => ⟨(hr.out.lt k hk).1, hr.lt k hk⟩⟩⟩
      exact @hK g cap w' i1 (Rw.mk1 h2 (Nat.le_trans hr.hb h3.size))
end Go.Proofs.YtlameeijogdckaaDoor
