/-
  Tokens in memory: rows of tokens, and what the lexer and its reference return.
-/
import Derived.Test.YtlameeijogdckaaDoorSe0
import Derived.Test.YtlameeijogdckaaDoorLz
namespace Go.Proofs.YtlameeijogdckaaDoor
open Go.RowKit

abbrev strV (l : List UInt8) : Value := .string ⟨l.toArray⟩
/-- A token's cells. -/
def tkV (t : Tk) : List Value := [.int .i64 ((t.kind : Nat) : Int), strV t.text, .int .i64 ((t.line : Nat) : Int), .int .i64 ((t.col : Nat) : Int)]
def tkL (L : List Tk) : List Value := L.flatMap tkV
theorem tkL_nil : tkL [] = [] := rfl
theorem tkL_cons (t : Tk) (L : List Tk) : tkL (t :: L) = tkV t ++ tkL L := rfl
theorem tkL_len (L : List Tk) : (tkL L).length = L.length * 4 := by
  induction L with
  | nil => rfl
  | cons t L ih => rw [tkL_cons, List.length_append, ih, List.length_cons]; show 4 + _ = _; omega
theorem tkL_snoc (L : List Tk) (t : Tk) : tkL (L ++ [t]) = tkL L ++ tkV t := by
  induction L with
  | nil => simp [tkL]
  | cons x L ih => rw [List.cons_append, tkL_cons, ih, tkL_cons, List.append_assoc]
theorem tkL_get (L : List Tk) : ∀ (i j : Nat) (t : Tk), L[i]? = some t → j < 4 → (tkL L)[i * 4 + j]? = (tkV t)[j]? := by
  induction L with
  | nil => intro i j t h; simp at h
  | cons x L ih =>
    intro i j t h hj
    cases i with
    | zero =>
      have : x = t := by simpa using h
      subst this
      rw [tkL_cons, List.getElem?_append_left (by show _ < 4; omega)]
      congr 1; omega
    | succ i =>
      rw [tkL_cons, List.getElem?_append_right (by show 4 ≤ _; omega)]
      rw [show (i + 1) * 4 + j - (tkV x).length = i * 4 + j by show _ - 4 = _; omega]
      exact ih i j t (by simpa using h) hj
theorem tkV_one (t : Tk) : ∀ u ∈ tkV t, u.oneCell' = true := by
  intro u hu
  simp only [tkV, strV, List.mem_cons, List.not_mem_nil, or_false] at hu
  rcases hu with rfl | rfl | rfl | rfl <;> rfl
theorem info_tk : (Tryd.prog.info? 36).map (fun i => (i.zero, i.size, i.bytes)) = some (some (.agg #[.int .i64 0, .string ⟨#[]⟩, .int .i64 0, .int .i64 0]), 4, 40) := by kernel_rfl
/-- The slice v is a row of tokens of the call's own; its block lies below what w0 held. -/
class CT (W : World) (v : Value) (L : outParam (List Tk)) (w0 : outParam World) : Prop where
  out : ∃ base, W.ownsRow base 36 4 v L.length (tkL L)
  lt : ∀ g, v.ownBlock = some g → g < w0.heap.size
  ltW : ∀ g, v.ownBlock = some g → g < W.heap.size
theorem CT.mk1 {W : World} {base : Nat} {v : Value} {L : List Tk} (h : W.ownsRow base 36 4 v L.length (tkL L)) : CT W v L W := ⟨⟨base, h⟩, fun g e => (h.lt g e).2, fun g e => (h.lt g e).2⟩
theorem CT.keep {W W2 w0 : World} {v : Value} {L : List Tk} (h : CT W v L w0) (hs : W.heap.size ≤ W2.heap.size) (hb : ∀ g, v.ownBlock = some g → W2.heap[g]? = W.heap[g]?) : CT W2 v L w0 := by
  refine ⟨?_, h.lt, fun g e => Nat.lt_of_lt_of_le (h.ltW g e) hs⟩
  obtain ⟨base, h1, h2⟩ := h.out
  refine ⟨base, h1, ?_⟩
  rcases h2 with hn | ⟨g, cap, cur, rfl, hbg, hgg, rest⟩
  · exact .inl hn
  · exact .inr ⟨g, cap, cur, rfl, hbg, by rw [hb g rfl]; exact hgg, rest⟩
theorem CT.here {W w0 : World} {v : Value} {L : List Tk} (h : CT W v L w0) : CT W v L W := ⟨h.out, h.ltW, h.ltW⟩
instance CT.al {W w0 : World} {v : Value} {L : List Tk} {o : Obj} [h : CT W v L w0] : CT (W.alloc o) v L w0 := h.keep (by rw [World.size_alloc]; omega) (fun g e => heap_al_lt (h.ltW g e))
instance CT.dr {W w0 : World} {v : Value} {L : List Tk} [h : CT W v L w0] : CT W.drew v L w0 := h.keep (Nat.le_refl _) (fun _ _ => rfl)
instance CT.drN {W w0 : World} {v : Value} {L : List Tk} {j : Nat} [h : CT W v L w0] : CT (W.drewN j) v L w0 := h.keep (Nat.le_refl _) (fun _ _ => rfl)
instance (priority := low) CT.kp {W W2 w0 : World} {v : Value} {L : List Tk} [k : Kp1 W W2] [h : CT W v L w0] : CT W2 v L w0 := h.keep k.out.size (fun g e => k.out.block _ (h.ltW g e))
instance (priority := low) CT.md {W W2 w0 : World} {v : Value} {L : List Tk} {q : Nat} [k : Md1 W W2 q] [h : CT W v L w0] [n : Ge w0 q] : CT W2 v L w0 := h.keep k.gb.size
  (fun g e => k.gb.block _ (h.ltW g e) (fun x => by injection x with x; have := n.out; have := h.lt g e; omega))
instance CT.st {W w0 : World} {v : Value} {L : List Tk} {q i : Nat} {x : Value} [h : CT W v L w0] [n : Ge w0 q] : CT (W.setCell ⟨q, i, none⟩ x) v L w0 := h.keep (by rw [World.size_setCell]; omega)
  (fun g e => by simp only [World.setCell, Array.getElem?_modify]; rw [if_neg (by have := n.out; have := h.lt g e; omega)])
theorem CT.len {W w0 : World} {a : Option Addr} {n c : Nat} {L : List Tk} (h : CT W (.slice a n c) L w0) : n = L.length := by
  obtain ⟨base, h1, h2⟩ := h.out
  rcases h2 with ⟨e, h0⟩ | ⟨g, cap, cur, e, _⟩
  · injection e with _ e2 _; omega
  · injection e with _ e2 _
/-- A row that is not empty: where it lies, and its cells. -/
theorem CT.form {W w0 : World} {a : Option Addr} {n c : Nat} {L : List Tk} (h : CT W (.slice a n c) L w0) (h0 : L ≠ []) : ∃ g, a = some ⟨g, 0, none⟩ ∧ ∀ (i j : Nat) (t : Tk), L[i]? = some t → j < 4 → W.cell? ⟨g, i * 4 + j, none⟩ = (tkV t)[j]? := by
  obtain ⟨base, h1, h2⟩ := h.out
  have h1' : W.ownsRow base 36 4 (.slice a n c) L.length (tkL L) := ⟨h1, h2⟩
  rcases h2 with ⟨e, h0'⟩ | ⟨g, cap, cur, e, _⟩
  · exact absurd (List.eq_nil_of_length_eq_zero h0') h0
  · injection e with e1 e2 e3
    subst e1
    refine ⟨g, rfl, fun i j t hi hj => ?_⟩
    have hl : j < (tkV t).length := hj
    have := h1'.cells (g := g) rfl (i * 4 + j) ((tkV t)[j]) (by rw [tkL_get L i j t hi hj, List.getElem?_eq_getElem hl])
    have hadd : (⟨g, 0, none⟩ : Addr).add (i * 4 + j) = ⟨g, i * 4 + j, none⟩ := by unfold Addr.add; split <;> simp_all
    rw [hadd] at this
    rw [this, List.getElem?_eq_getElem hl]
/-- Tokens are returned, and err behind them. -/
def TokRet (w : World) (L : List Tk) (err : Value) (e : Ending) (w' : World) : Prop :=
  ∃ a n c, e = .returned (.tuple #[.slice a n c, err]) ∧ CT w' (.slice a n c) L w' ∧ Below w.heap.size w w'
theorem Calls.cTok {P : Program} {f : FuncId} {args : Array Value} {w : World} {L : List Tk} {err : Value} {K : Ending → World → Prop} (h : Calls P f args w (TokRet w L err))
    (hK : ∀ w' [Kp1 w w'] (a : Option Addr) (n c : Nat) [CT w' (.slice a n c) L w'], n = L.length → K (.returned (.tuple #[.slice a n c, err])) w') : Calls P f args w K := by
  refine h.mono ?_
  rintro e w' ⟨a, n, c, rfl, hx, hb⟩
  exact @hK w' ⟨hb⟩ a n c hx hx.len
/-- An error of package api of the kind at a, at a place, with a text. -/
def TokErr (w : World) (a : Addr) (n c : Nat) (s : List UInt8) (e : Ending) (w' : World) : Prop :=
  ∃ b, e = .returned (.tuple #[.slice none 0 0, .iface 40 (.pointer (some ⟨b, 0, none⟩))]) ∧ Bx w' b 45 [.iface 94 (.pointer (some a)), .int .i64 ((n : Nat) : Int), .int .i64 ((c : Nat) : Int), strV s] ∧ w.heap.size ≤ b ∧ Below w.heap.size w w'
theorem Calls.cTErr {P : Program} {f : FuncId} {args : Array Value} {w : World} {a : Addr} {n c : Nat} {s : List UInt8} {K : Ending → World → Prop} (h : Calls P f args w (TokErr w a n c s))
    (hK : ∀ w' [Kp1 w w'] (b : Nat) [Bx w' b 45 [.iface 94 (.pointer (some a)), .int .i64 ((n : Nat) : Int), .int .i64 ((c : Nat) : Int), strV s]], w.heap.size ≤ b → K (.returned (.tuple #[.slice none 0 0, .iface 40 (.pointer (some ⟨b, 0, none⟩))])) w') : Calls P f args w K := by
  refine h.mono ?_
  rintro e w' ⟨b, rfl, hx, hg, hb⟩
  exact @hK w' ⟨hb⟩ b hx hg
end Go.Proofs.YtlameeijogdckaaDoor
