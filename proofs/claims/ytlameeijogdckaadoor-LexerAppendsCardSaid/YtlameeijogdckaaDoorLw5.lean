/-
  lexer.Tokens: the tokens of a text, or the first error.
  Printed by a small program (mklex5.py).
-/
import Derived.Test.YtlameeijogdckaaDoorLw4
import Derived.Test.YtlameeijogdckaaDoorRow
namespace Go.Proofs.YtlameeijogdckaaDoor
open Go.RowKit

theorem Rw.ct {W w0 : World} {v : Value} {L : List Tk} {n base : Nat} {xs : List Value} (h : Rw W v 36 4 n xs base w0) (e1 : n = L.length) (e2 : xs = tkL L) : CT W v L W := by
  subst e1; subst e2; exact CT.mk1 h.out
/-- The tokens, or an error. -/
def TkRet (w : World) (aS aL : Addr) (s : ByteArray) (e : Ending) (w' : World) : Prop :=
  (∃ L, tkS s = .ok L ∧ TokRet w L .nilIface e w') ∨ (∃ k n c t, tkS s = .er k n c t ∧ TokErr w (sntA aS aL k) n c t e w')
set_option maxRecDepth 100000 in
set_option maxHeartbeats 4000000 in
set_option synthInstance.maxSize 100000 in
set_option synthInstance.maxHeartbeats 1000000 in
theorem tokensC {w w0 : World} {s : ByteArray} {aS aL : Addr} [hS : Snt w 0 aS w0] [hL : Snt w 1 aL w0] [zS : Kz w0 w] (b : s.size ≤ 60000) :
    Calls Tryd.prog 8 #[.string s] w (TkRet w aS aL s) := by
  have hb : (s.size : Int) ≤ 65536 := by omega
  go_enter Tryd.func8, Tryd.ntmps8
  go_wp2_with fail
  go_loopg [5] (s.size + 1) (fun g v wr => ∃ (p l c : Nat) (L : List Tk), p + g = s.size + 1 ∧ Bx wr w.heap.size 48 [.string s, .int .i64 ((p : Nat) : Int), .int .i64 ((l : Nat) : Int), .int .i64 ((c : Nat) : Int)] ∧ Rw wr v 36 4 L.length (tkL L) (w.heap.size + 1) wr ∧ Kp w wr ∧ Snt wr 0 aS w0 ∧ Snt wr 1 aL w0 ∧
    Hid (tkS s = Tr.pre L (tkAt s p l c)) ∧ p ≤ s.size ∧ l ≤ p + 1 ∧ c ≤ p + 1 ∧ 1 ≤ c ∧ L.length ≤ p)
  case atStart => exact ⟨0, 1, 1, [], by omega, Bx.re rfl, Rw.nil (by simp), inferInstance, inferInstance, inferInstance, rfl, by omega, by omega, by omega, by omega, by simp⟩
  case round =>
    obtain ⟨p, l, c, L, hg, i1, i2, i3, i4, i5, hT, h1, h2, h3, h4, h5⟩ := hrel
    have i6 : Kz w0 wr := ⟨Nat.le_trans zS.out i3.out.size⟩
    go_wp2_with fail
    go_at_call 19
    refine Calls.cNx (nextC (w2 := w0) (gS := inferInstance) ⟨h1, by omega, by omega, by omega, h4⟩) ?_
    intro w1 i7
    refine ⟨?_, ?_, ?_⟩
    · intro l' c' hE
      have HE := Lib.hid (hT.out.trans (by rw [hE, Tr.pre_ok]))
      clear hT hE
      dsimp only [tkV]
      go_wp2_with (at_builtin; go_loud (refine app_rw (v := u5) rfl (.tmp 26) (.tmp 28) 23 rfl Tryd.underlying23 info_tk rfl (by decide) (by decide) rfl rfl (by rfl) ?h1 (by omega) ?_); (case h1 => exact tkV_one ⟨_, _, _, _⟩); intro g2 c2 w2 i9 i10)
      go_ret2
      exact .inl ⟨L ++ [⟨0, [], l', c'⟩], HE.out, _, _, _, rfl, Rw.ct inferInstance (by simp) (by rw [tkL_snoc]; rfl), (inferInstance : Kp w _).out⟩
    · intro t p' l' c' i8 hE k1 k2 k3 k4 k5 k6
      have HT := Lib.hid (hT.out.trans (by rw [hE, Tr.pre_snoc]))
      clear hT hE
      obtain ⟨tk, tt, tl, tc⟩ := t
      have hk : ((tk : Int) == 0) = false := by rw [beq_eq_false_iff_ne]; exact fun e => k1 (by show tk = 0; omega)
      clear k1
      dsimp only [tkV]
      go_wp2_with (at_builtin; go_loud (refine app_rw (v := u5) rfl (.tmp 26) (.tmp 28) 23 rfl Tryd.underlying23 info_tk rfl (by decide) (by decide) rfl rfl (by rfl) ?h1 (by omega) ?_); (case h1 => exact tkV_one ⟨_, _, _, _⟩); intro g2 c2 w2 i9 i10)
      go_roundg (s.size + 1 - p')
      case measure => omega
      case rel => exact ⟨p', l', c', L ++ [⟨tk, tt, tl, tc⟩], by omega, Bx.re rfl, Rw.cast (Rw.here inferInstance) (by simp) (by rw [tkL_snoc]; rfl), inferInstance, inferInstance, inferInstance, HT, by omega, by omega, by omega, by omega, by simp; omega⟩
    · intro k n c' t b2 i8 hk hE hlt
      have HE := Lib.hid (hT.out.trans (by rw [hE, Tr.pre_er]))
      clear hT hE
      go_wp2_with fail
      go_ret2
      exact .inr ⟨k, n, c', t, HE.out, b2, rfl, Bx.re rfl, Nat.le_trans i3.out.size hlt, (inferInstance : Kp w _).out⟩
theorem tokOk {w w0 : World} {s : ByteArray} {aS aL : Addr} {L : List Tk} [hS : Snt w 0 aS w0] [hL : Snt w 1 aL w0] [zS : Kz w0 w] (b : s.size ≤ 60000) (h : Hid (tkS s = .ok L)) :
    Calls Tryd.prog 8 #[.string s] w (TokRet w L .nilIface) := (tokensC b).mono (by
  rintro e w' (⟨L', h1, h2⟩ | ⟨k, n, c, t, h1, h2⟩)
  · have := h1.symm.trans h.out; injection this with this; subst this; exact h2
  · have := h1.symm.trans h.out; cases this)
theorem tokEr {w w0 : World} {s : ByteArray} {aS aL : Addr} {k n c : Nat} {t : List UInt8} [hS : Snt w 0 aS w0] [hL : Snt w 1 aL w0] [zS : Kz w0 w] (b : s.size ≤ 60000) (h : Hid (tkS s = .er k n c t)) :
    Calls Tryd.prog 8 #[.string s] w (TokErr w (sntA aS aL k) n c t) := (tokensC b).mono (by
  rintro e w' (⟨L', h1, h2⟩ | ⟨k', n', c', t', h1, h2⟩)
  · have := h1.symm.trans h.out; cases this
  · have := h1.symm.trans h.out; injection this with e1 e2 e3 e4; subst e1; subst e2; subst e3; subst e4; exact h2)
end Go.Proofs.YtlameeijogdckaaDoor
