/-
  The statement LexerTokens: its walk.
  Printed by a small program (mklex9.py).
-/
import Derived.Test.YtlameeijogdckaaDoorRk
import Derived.Test.YtlameeijogdckaaDoorLaid3
namespace Go.Proofs.YtlameeijogdckaaDoor
open Go.RowKit

def RtOk (w : World) (L : List Tk) (e : Ending) (w' : World) : Prop :=
  ∃ a n c, e = .returned (.tuple #[.slice a n c, .agg #[.int .i64 0, .int .i64 0, .int .i64 0, .string ⟨#[]⟩]]) ∧ CT w' (.slice a n c) L w' ∧ Below w.heap.size w w'
theorem Calls.cRt {P : Program} {f : FuncId} {args : Array Value} {w : World} {L : List Tk} {K : Ending → World → Prop} (h : Calls P f args w (RtOk w L))
    (hK : ∀ w' [Kp1 w w'] (a : Option Addr) (c : Nat) [CT w' (.slice a L.length c) L w'], K (.returned (.tuple #[.slice a L.length c, .agg #[.int .i64 0, .int .i64 0, .int .i64 0, .string ⟨#[]⟩]])) w') : Calls P f args w K := by
  refine h.mono ?_
  rintro e w' ⟨a, n, c, rfl, hx, hb⟩
  obtain rfl := hx.len
  exact @hK w' ⟨hb⟩ a c hx
theorem Calls.cTo {P : Program} {f : FuncId} {args : Array Value} {w : World} {L : List Tk} {err : Value} {K : Ending → World → Prop} (h : Calls P f args w (TokRet w L err))
    (hK : ∀ w' [Kp1 w w'] (a : Option Addr) (c : Nat) [CT w' (.slice a L.length c) L w'], K (.returned (.tuple #[.slice a L.length c, err])) w') : Calls P f args w K := by
  refine h.mono ?_
  rintro e w' ⟨a, n, c, rfl, hx, hb⟩
  obtain rfl := hx.len
  exact @hK w' ⟨hb⟩ a c hx
theorem refOk {w : World} {s : ByteArray} {L : List Tk} (b : s.size ≤ 60000) (h : Hid (tkS s = .ok L)) : Calls Tryd.prog 9 #[.string s] w (RtOk w L) := (refTokensC b).mono (by
  rintro e w' (⟨L', a, n, c, h1, h2, h3, h4⟩ | ⟨k, n, c, t, h1, h2⟩)
  · have := h1.symm.trans h.out; injection this with this; subst this; exact ⟨a, n, c, h2, h3, h4⟩
  · have := h1.symm.trans h.out; cases this)
theorem refEr {w : World} {s : ByteArray} {k n c : Nat} {t : List UInt8} (b : s.size ≤ 60000) (h : Hid (tkS s = .er k n c t)) : Calls Tryd.prog 9 #[.string s] w
    fun e w' => e = .returned (.tuple #[.slice none 0 0, .agg #[.int .i64 ((k : Nat) : Int), .int .i64 ((n : Nat) : Int), .int .i64 ((c : Nat) : Int), strV t]]) ∧ Below w.heap.size w w' := (refTokensC b).mono (by
  rintro e w' (⟨L', a, n, c, h1, h2, h3, h4⟩ | ⟨k', n', c', t', h1, h2, h3⟩)
  · have := h1.symm.trans h.out; cases this
  · have := h1.symm.trans h.out; injection this with e1 e2 e3 e4; subst e1; subst e2; subst e3; subst e4; exact ⟨h2, h3⟩)
theorem tkS_small {s : ByteArray} {L : List Tk} (h : tkS s = .ok L) : L.length ≤ s.size + 1 ∧ (joinL L).length ≤ 2 * s.size + 1 := by
  have := toks_small _ _ _ _ _ (Nat.lt_succ_self _) h
  rw [List.drop_zero, ← str_len] at this
  exact this
set_option maxRecDepth 100000 in
set_option maxHeartbeats 4000000 in
set_option synthInstance.maxSize 100000 in
set_option synthInstance.maxHeartbeats 1000000 in
theorem lexerTokens_walk' {w w0 : World} {s : ByteArray} {aS aL : Addr} [hS : Snt w 0 aS w0] [hL : Snt w 1 aL w0] [hE : Gc w 2 eTy w0] [zS : Kz w0 w] : Calls Tryd.prog 3 #[.string s] w fun e w' => e = .returned (.bool true) ∧ Below w.heap.size w w' := by
  by_cases hs : s.size ≤ 3000
  · have hs' : (s.size : Int) ≤ 3000 := by omega
    cases hT : tkS s with
    | ok L =>
      have HT := Lib.hid hT
      have hl := tkS_small hT
      clear hT
      go_enter Tryd.func3, Tryd.ntmps3
      go_wp2_with (first
      | (go_at_call 7; (with_reducible refine Calls.cE knownC ?_); intros)
      | (go_at_call 8; (with_reducible refine Calls.cTo (tokOk (by omega) HT) ?_); intros)
      | (go_at_call 9; (with_reducible refine Calls.cRt (refOk (by omega) HT) ?_); intros)
      | (go_at_call 11; (with_reducible refine Calls.cE (same11C (by omega)) ?_); intros))
      go_ret
      exact E.fin rfl
    | er k n c t =>
      have HT := Lib.hid hT
      have hk := tkS_kind hT
      have hk0 : ((k : Int) == 0) = false := by rw [beq_eq_false_iff_ne]; omega
      clear hT
      go_enter Tryd.func3, Tryd.ntmps3
      go_wp2_with (first
      | (go_at_call 7; (with_reducible refine Calls.cE knownC ?_); intros)
      | (go_at_call 8; (with_reducible refine Calls.cTErr (tokEr (by omega) HT) ?_); intros)
      | (go_at_call 9; (with_reducible refine Calls.cE (refEr (by omega) HT) ?_); intros)
      | (go_at_call 10; (with_reducible refine Calls.cE (failsC hk) ?_); intros))
      go_ret
      exact E.fin rfl
  · have hs' : (3000 : Int) < s.size := by omega
    go_enter Tryd.func3, Tryd.ntmps3
    go_wp2_with (first
      | (go_at_call 7; (with_reducible refine Calls.cE knownC ?_); intros))
    go_ret
    exact E.fin rfl
theorem lexerTokens_walk (a0 : ByteArray) (w : World) (_ : a0.size ≤ maxLen) (hL : laidMetH Tryd.prog laidT w) : Calls Tryd.prog 3 #[.string a0] w fun e w' => e = .returned (.bool true) ∧ Below w.heap.size w w' := by
  obtain ⟨aS, aL, h1, h2, _, h3⟩ := sentsL (laidL_of_T hL)
  exact lexerTokens_walk' (w0 := w)
end Go.Proofs.YtlameeijogdckaaDoor
