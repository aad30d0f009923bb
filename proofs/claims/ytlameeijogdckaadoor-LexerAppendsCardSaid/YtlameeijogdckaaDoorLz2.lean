/-
  Tokens of texts: what kinds of errors there are, how great the lines of tokens get, what a joined text has. Plain laws; no program is in sight here.
-/
import Derived.Test.YtlameeijogdckaaDoorLz
namespace Go.Proofs.YtlameeijogdckaaDoor
theorem Tr.cons_er {t : Tk} {r : Tr} {k n c : Nat} {s : List UInt8} (h : Tr.cons t r = .er k n c s) : r = .er k n c s := by
  cases r with
  | ok l => cases h
  | er _ _ _ _ => exact h
theorem toks_kind : ∀ (f : Nat) (l : List UInt8) (n c k n' c' : Nat) (s : List UInt8), l.length < f → toks l n c = .er k n' c' s → k = 1 ∨ k = 2 := by
  intro f
  induction f with
  | zero => intro l n c k n' c' s h; omega
  | succ f ih =>
    intro l n c k n' c' s hf h
    cases l with
    | nil => rw [toks_nil] at h; cases h
    | cons b l =>
      rw [List.length_cons] at hf
      have hd : ∀ k, (l.drop k).length < f := fun k => by rw [List.length_drop]; omega
      rw [toks_cons] at h
      split at h
      · exact ih l _ _ _ _ _ _ (by omega) h
      split at h
      · exact ih l _ _ _ _ _ _ (by omega) h
      split at h
      · exact ih _ _ _ _ _ _ _ (hd _) h
      split at h
      · split at h
        · injection h with h; exact .inr h.symm
        · exact ih _ _ _ _ _ _ _ (hd _) (Tr.cons_er h)
      split at h
      · split at h
        · injection h with h; exact .inr h.symm
        · exact ih _ _ _ _ _ _ _ (hd _) (Tr.cons_er h)
      split at h
      · exact ih l _ _ _ _ _ _ (by omega) (Tr.cons_er h)
      · injection h with h; exact .inl h.symm
theorem toks_line : ∀ (f : Nat) (l : List UInt8) (n c : Nat) (L : List Tk), l.length < f → toks l n c = .ok L → ∀ t ∈ L, t.line ≤ n + l.length := by
  intro f
  induction f with
  | zero => intro l n c L h; omega
  | succ f ih =>
    intro l n c L hf h
    cases l with
    | nil => rw [toks_nil] at h; injection h with h; rw [← h]; intro t ht; rw [List.mem_singleton.1 ht]; exact Nat.le_refl _
    | cons b l =>
      rw [List.length_cons] at hf
      have hd : ∀ k, (l.drop k).length < f ∧ (l.drop k).length ≤ l.length := fun k => by rw [List.length_drop]; omega
      have cons : ∀ {M : List Tk} {t0 : Tk} {m : Nat}, t0.line = n → (∀ t ∈ M, t.line ≤ n + m) → m ≤ l.length → ∀ t ∈ t0 :: M, t.line ≤ n + (l.length + 1) := fun h0 hM hm t ht => by
        rcases List.mem_cons.1 ht with rfl | ht
        · omega
        · have := hM t ht; omega
      rw [toks_cons] at h
      rw [List.length_cons]
      split at h
      · intro t ht; have := ih l _ _ L (by omega) h t ht; omega
      split at h
      · intro t ht; have := ih l _ _ L (by omega) h t ht; omega
      split at h
      · intro t ht; have := ih _ _ _ L (hd _).1 h t ht; have := (hd (runL notLF l)).2; omega
      split at h
      · split at h
        · cases h
        · obtain ⟨M, h2, rfl⟩ := Tr.cons_ok h
          exact cons rfl (ih _ _ _ M (hd _).1 h2) (hd _).2
      split at h
      · split at h
        · cases h
        · obtain ⟨M, h2, rfl⟩ := Tr.cons_ok h
          exact cons rfl (ih _ _ _ M (hd _).1 h2) (hd _).2
      split at h
      · obtain ⟨M, h2, rfl⟩ := Tr.cons_ok h
        exact cons rfl (ih l _ _ M (by omega) h2) (Nat.le_refl _)
      · cases h
/-- The tokens of a text. -/
def tkS (s : ByteArray) : Tr := tkAt s 0 1 1
theorem tkS_eq (s : ByteArray) : tkS s = toks s.data.toList 1 1 := rfl
theorem tkS_kind {s : ByteArray} {k n c : Nat} {t : List UInt8} (h : tkS s = .er k n c t) : k = 1 ∨ k = 2 := toks_kind _ _ _ _ _ _ _ _ (Nat.lt_succ_self _) h
theorem joinL_app (L M : List Tk) : joinL (L ++ M) = joinL L ++ joinL M := by
  induction L with
  | nil => rfl
  | cons t L ih => show t.text ++ 32 :: joinL (L ++ M) = (t.text ++ 32 :: joinL L) ++ joinL M; rw [ih]; simp
theorem joinL_snoc (L : List Tk) (t : Tk) : joinL (L ++ [t]) = joinL L ++ (t.text ++ [32]) := by rw [joinL_app]; rfl
end Go.Proofs.YtlameeijogdckaaDoor
