/-
  Tokens of texts: the tokens joined, texts appended. Plain laws; no program is in sight here.
-/
import Derived.Test.YtlameeijogdckaaDoorLx
namespace Go.Proofs.YtlameeijogdckaaDoor
theorem runL_app {p : UInt8 → Bool} {b0 : UInt8} (h : p b0 = false) (t : List UInt8) : ∀ l, runL p (l ++ b0 :: t) = runL p l
  | [] => runL_zero h
  | b :: l => by
    cases hb : p b with
    | true => rw [List.cons_append, runL_pos hb, runL_pos hb, runL_app h t l]
    | false => rw [List.cons_append, runL_zero hb, runL_zero hb]
theorem runL_take {p : UInt8 → Bool} : ∀ l : List UInt8, ∀ x ∈ l.take (runL p l), p x = true
  | [] => fun x h => by simp [runL] at h
  | b :: l => by
    cases hb : p b with
    | true =>
      rw [runL_pos hb, List.take_succ_cons]
      intro x hx
      rcases List.mem_cons.1 hx with rfl | hx
      · exact hb
      · exact runL_take l x hx
    | false => rw [runL_zero hb]; intro x hx; simp at hx
theorem runL_all {p : UInt8 → Bool} {b0 : UInt8} (h0 : p b0 = false) : ∀ (m t : List UInt8), (∀ x ∈ m, p x = true) → runL p (m ++ b0 :: t) = m.length
  | [], _, _ => runL_zero h0
  | b :: m, t, h => by rw [List.cons_append, runL_pos (h b (List.mem_cons_self ..)), runL_all h0 m t (fun x hx => h x (List.mem_cons_of_mem _ hx)), List.length_cons]
theorem sg_not {b : UInt8} (h : isSg b = true) : isSg b = true := h
/-- The texts of tokens, each with a blank behind it. -/
def joinL : List Tk → List UInt8
  | [] => []
  | t :: L => t.text ++ 32 :: joinL L
def kt (t : Tk) : Nat × List UInt8 := (t.kind, t.text)
theorem toks_blank (l : List UInt8) (n c : Nat) : toks (32 :: l) n c = toks l n (c + 1) := by
  rw [toks_cons, if_neg (by decide), if_pos (by decide)]
theorem Tr.cons_ok {t : Tk} {r : Tr} {L : List Tk} (h : Tr.cons t r = .ok L) : ∃ M, r = .ok M ∧ L = t :: M := by
  cases r with
  | ok l => exact ⟨l, rfl, by injection h with h; exact h.symm⟩
  | er k n c s => cases h
theorem toks_join : ∀ (f : Nat) (l : List UInt8) (n c : Nat) (L : List Tk), l.length < f → toks l n c = .ok L → ∀ n' c', ∃ M, toks (joinL L) n' c' = .ok M ∧ M.map kt = L.map kt := by
  intro f
  induction f with
  | zero => intro l n c L h; omega
  | succ f ih =>
    intro l n c L hf h n' c'
    cases l with
    | nil =>
      rw [toks_nil] at h
      injection h with h
      subst h
      exact ⟨[⟨0, [], n', c' + 1⟩], toks_blank [] n' c', rfl⟩
    | cons b l =>
      rw [List.length_cons] at hf
      have hd : ∀ k, (l.drop k).length < f := fun k => by rw [List.length_drop]; omega
      rw [toks_cons] at h
      by_cases h1 : b.toNat = 10
      · rw [if_pos h1] at h; exact ih l _ _ L (by omega) h n' c'
      rw [if_neg h1] at h
      by_cases h2 : isBl b = true
      · rw [if_pos h2] at h; exact ih l _ _ L (by omega) h n' c'
      rw [if_neg h2] at h
      by_cases h3 : b.toNat = 35
      · rw [if_pos h3] at h; exact ih _ _ _ L (hd _) h n' c'
      rw [if_neg h3] at h
      by_cases h4 : isLetter b = true
      · rw [if_pos h4] at h
        by_cases h5 : 24 < runL isWd l + 1
        · rw [if_pos h5] at h; cases h
        rw [if_neg h5] at h
        obtain ⟨M0, hM0, rfl⟩ := Tr.cons_ok h
        have hr : runL isWd (l.take (runL isWd l) ++ 32 :: joinL M0) = (l.take (runL isWd l)).length := runL_all (by decide) _ _ (runL_take l)
        have hlen : (l.take (runL isWd l)).length = runL isWd l := by rw [List.length_take]; have := runL_le isWd l; omega
        obtain ⟨M, hM, hk⟩ := ih _ _ _ M0 (hd _) hM0 n' (c' + (runL isWd l + 1) + 1)
        refine ⟨⟨1, b :: l.take (runL isWd l), n', c'⟩ :: M, ?_, by simp only [List.map_cons, hk]; rfl⟩
        show toks ((b :: l.take (runL isWd l)) ++ 32 :: joinL M0) n' c' = _
        rw [List.cons_append, toks_cons, if_neg h1, if_neg h2, if_neg h3, if_pos h4, hr, hlen, if_neg h5, List.drop_append_of_le_length (by omega), List.take_append_of_le_length (by omega),
          List.drop_of_length_le (by omega), List.take_of_length_le (by omega), List.nil_append, toks_blank, hM]
        rfl
      rw [if_neg h4] at h
      by_cases h5 : isDg b = true
      · rw [if_pos h5] at h
        by_cases h6 : 4096 < runL isDg l + 1
        · rw [if_pos h6] at h; cases h
        rw [if_neg h6] at h
        obtain ⟨M0, hM0, rfl⟩ := Tr.cons_ok h
        have hr : runL isDg (l.take (runL isDg l) ++ 32 :: joinL M0) = (l.take (runL isDg l)).length := runL_all (by decide) _ _ (runL_take l)
        have hlen : (l.take (runL isDg l)).length = runL isDg l := by rw [List.length_take]; have := runL_le isDg l; omega
        obtain ⟨M, hM, hk⟩ := ih _ _ _ M0 (hd _) hM0 n' (c' + (runL isDg l + 1) + 1)
        refine ⟨⟨2, b :: l.take (runL isDg l), n', c'⟩ :: M, ?_, by simp only [List.map_cons, hk]; rfl⟩
        show toks ((b :: l.take (runL isDg l)) ++ 32 :: joinL M0) n' c' = _
        rw [List.cons_append, toks_cons, if_neg h1, if_neg h2, if_neg h3, if_neg h4, if_pos h5, hr, hlen, if_neg h6, List.drop_append_of_le_length (by omega), List.take_append_of_le_length (by omega),
          List.drop_of_length_le (by omega), List.take_of_length_le (by omega), List.nil_append, toks_blank, hM]
        rfl
      rw [if_neg h5] at h
      by_cases h6 : isSg b = true
      · rw [if_pos h6] at h
        obtain ⟨M0, hM0, rfl⟩ := Tr.cons_ok h
        obtain ⟨M, hM, hk⟩ := ih _ _ _ M0 (by omega) hM0 n' (c' + 1 + 1)
        refine ⟨⟨3, [b], n', c'⟩ :: M, ?_, by simp only [List.map_cons, hk]; rfl⟩
        show toks (b :: 32 :: joinL M0) n' c' = _
        rw [toks_cons, if_neg h1, if_neg h2, if_neg h3, if_neg h4, if_neg h5, if_pos h6, toks_blank, hM]
        rfl
      rw [if_neg h6] at h
      cases h
/-- Lines of tokens moved by d. -/
def shT (d : Nat) (t : Tk) : Tk := { t with line := t.line + d }
def Tr.sh (d : Nat) : Tr → Tr
  | .ok l => .ok (l.map (shT d))
  | .er k n c s => .er k (n + d) c s
theorem Tr.sh_cons (d : Nat) (t : Tk) (r : Tr) : (Tr.cons t r).sh d = Tr.cons (shT d t) (r.sh d) := by cases r <;> rfl
theorem toks_shift (d : Nat) : ∀ (f : Nat) (l : List UInt8) (n c : Nat), l.length < f → toks l (n + d) c = (toks l n c).sh d := by
  intro f
  induction f with
  | zero => intro l n c h; omega
  | succ f ih =>
    intro l n c hf
    cases l with
    | nil => rfl
    | cons b l =>
      rw [List.length_cons] at hf
      have hd : ∀ k n c, toks (l.drop k) (n + d) c = (toks (l.drop k) n c).sh d := fun k n c => ih _ n c (by rw [List.length_drop]; omega)
      have h0 : ∀ n c, toks l (n + d) c = (toks l n c).sh d := fun n c => ih _ n c (by omega)
      have h00 : ∀ n c, toks l (n + d + 1) c = (toks l (n + 1) c).sh d := fun n c => by rw [show n + d + 1 = n + 1 + d from by omega]; exact h0 _ _
      simp only [toks_cons, hd, h0, h00, apply_ite (Tr.sh d), Tr.sh_cons]
      rfl
/-- What comes behind tokens whose end is left out. -/
def Tr.then : Tr → Tr → Tr
  | .er k n c s, _ => .er k n c s
  | .ok _, .er k n c s => .er k n c s
  | .ok l, .ok m => .ok (l.dropLast ++ m)
def cntL (l : List UInt8) : Nat := l.countP (fun b => decide (b.toNat = 10))
theorem cnt_drop {p : UInt8 → Bool} (h0 : ∀ b : UInt8, b.toNat = 10 → p b = false) : ∀ l, cntL (l.drop (runL p l)) = cntL l
  | [] => rfl
  | b :: l => by
    cases hb : p b with
    | true =>
      rw [runL_pos hb, List.drop_succ_cons, cnt_drop h0 l]
      unfold cntL
      rw [List.countP_cons, if_neg (fun h => by rw [h0 b (of_decide_eq_true h)] at hb; cases hb)]; rfl
    | false => rw [runL_zero hb]; rfl
theorem ok_ne : ∀ (f : Nat) (l : List UInt8) (n c : Nat) (L : List Tk), l.length < f → toks l n c = .ok L → L ≠ [] := by
  intro f
  induction f with
  | zero => intro l n c L h; omega
  | succ f ih =>
    intro l n c L hf h
    cases l with
    | nil => rw [toks_nil] at h; injection h with h; rw [← h]; exact List.cons_ne_nil _ _
    | cons b l =>
      rw [List.length_cons] at hf
      have hd : ∀ k, (l.drop k).length < f := fun k => by rw [List.length_drop]; omega
      rw [toks_cons] at h
      split at h
      · exact ih l _ _ L (by omega) h
      split at h
      · exact ih l _ _ L (by omega) h
      split at h
      · exact ih _ _ _ L (hd _) h
      split at h
      · split at h
        · cases h
        · obtain ⟨M, _, rfl⟩ := Tr.cons_ok h; exact List.cons_ne_nil _ _
      split at h
      · split at h
        · cases h
        · obtain ⟨M, _, rfl⟩ := Tr.cons_ok h; exact List.cons_ne_nil _ _
      split at h
      · obtain ⟨M, _, rfl⟩ := Tr.cons_ok h; exact List.cons_ne_nil _ _
      · cases h
theorem then_cons (t : Tk) (r q : Tr) (h : ∀ L, r = .ok L → L ≠ []) : (Tr.cons t r).then q = Tr.cons t (r.then q) := by
  cases r with
  | er k n c s => cases q <;> rfl
  | ok l =>
    cases q with
    | er k n c s => rfl
    | ok m =>
      show Tr.ok ((t :: l).dropLast ++ m) = Tr.ok (t :: (l.dropLast ++ m))
      rw [List.dropLast_cons_of_ne_nil (h l rfl), List.cons_append]
theorem cnt_cons_ne {b : UInt8} (h : b.toNat ≠ 10) (l : List UInt8) : cntL (b :: l) = cntL l := by
  unfold cntL; rw [List.countP_cons, if_neg (fun x => h (of_decide_eq_true x))]; rfl
theorem toks_append (t : List UInt8) : ∀ (f : Nat) (l : List UInt8) (n c : Nat), l.length < f → toks (l ++ 10 :: t) n c = (toks l n c).then (toks t (n + cntL l + 1) 1) := by
  intro f
  induction f with
  | zero => intro l n c h; omega
  | succ f ih =>
    intro l n c hf
    cases l with
    | nil =>
      rw [List.nil_append, toks_cons, if_pos (by decide), toks_nil]
      show toks t (n + 1) 1 = Tr.then (.ok [_]) (toks t (n + 0 + 1) 1)
      cases toks t (n + 1) 1 <;> rfl
    | cons b l =>
      rw [List.length_cons] at hf
      have hd : ∀ k, (l.drop k).length < f := fun k => by rw [List.length_drop]; omega
      have hok : ∀ k n c L, toks (l.drop k) n c = .ok L → L ≠ [] := fun k n c L h => ok_ne f _ n c L (hd k) h
      rw [List.cons_append, toks_cons, toks_cons]
      by_cases h1 : b.toNat = 10
      · rw [if_pos h1, if_pos h1, ih l _ _ (by omega)]
        congr 2
        unfold cntL
        rw [List.countP_cons, if_pos (decide_eq_true h1)]; omega
      have hc := cnt_cons_ne h1 l
      rw [if_neg h1, if_neg h1, hc]
      by_cases h2 : isBl b = true
      · rw [if_pos h2, if_pos h2, ih l _ _ (by omega)]
      rw [if_neg h2, if_neg h2]
      by_cases h3 : b.toNat = 35
      · rw [if_pos h3, if_pos h3, runL_app (by decide), List.drop_append_of_le_length (runL_le _ _), ih _ _ _ (hd _), cnt_drop (fun b h => by simp [notLF, h])]
      rw [if_neg h3, if_neg h3]
      by_cases h4 : isLetter b = true
      · rw [if_pos h4, if_pos h4, runL_app (by decide), List.drop_append_of_le_length (runL_le _ _), List.take_append_of_le_length (runL_le _ _)]
        by_cases h5 : 24 < runL isWd l + 1
        · rw [if_pos h5, if_pos h5]; rfl
        rw [if_neg h5, if_neg h5, ih _ _ _ (hd _), cnt_drop (fun b h => by rw [isWd, (cls_nl h).2.1, (cls_nl h).2.2.1]; rfl), then_cons _ _ _ (hok _ _ _)]
      rw [if_neg h4, if_neg h4]
      by_cases h5 : isDg b = true
      · rw [if_pos h5, if_pos h5, runL_app (by decide), List.drop_append_of_le_length (runL_le _ _), List.take_append_of_le_length (runL_le _ _)]
        by_cases h6 : 4096 < runL isDg l + 1
        · rw [if_pos h6, if_pos h6]; rfl
        rw [if_neg h6, if_neg h6, ih _ _ _ (hd _), cnt_drop (fun b h => (cls_nl h).2.2.1), then_cons _ _ _ (hok _ _ _)]
      rw [if_neg h5, if_neg h5]
      by_cases h6 : isSg b = true
      · rw [if_pos h6, if_pos h6, ih l _ _ (by omega), then_cons _ _ _ (fun L h => ok_ne f _ n _ L (by omega) h)]
      · rw [if_neg h6, if_neg h6]; rfl
/-- Few and short tokens. -/
theorem toks_small : ∀ (f : Nat) (l : List UInt8) (n c : Nat) (L : List Tk), l.length < f → toks l n c = .ok L → L.length ≤ l.length + 1 ∧ (joinL L).length ≤ 2 * l.length + 1 := by
  intro f
  induction f with
  | zero => intro l n c L h; omega
  | succ f ih =>
    intro l n c L hf h
    cases l with
    | nil => rw [toks_nil] at h; injection h with h; rw [← h]; exact ⟨Nat.le_refl _, Nat.le_refl _⟩
    | cons b l =>
      rw [List.length_cons] at hf
      have hd : ∀ k, (l.drop k).length < f := fun k => by rw [List.length_drop]; omega
      have ht : ∀ p, (l.take (runL p l)).length = runL p l ∧ (l.drop (runL p l)).length + runL p l = l.length := fun p => by
        have := runL_le p l
        rw [List.length_take, List.length_drop]; omega
      rw [toks_cons] at h
      rw [List.length_cons]
      split at h
      · have := ih l _ _ L (by omega) h; omega
      split at h
      · have := ih l _ _ L (by omega) h; omega
      split at h
      · have := ih _ _ _ L (hd _) h; have := ht notLF; omega
      split at h
      · split at h
        · cases h
        · obtain ⟨M, h2, rfl⟩ := Tr.cons_ok h
          have := ih _ _ _ M (hd _) h2; have := ht isWd
          simp only [joinL, List.length_cons, List.length_append]; omega
      split at h
      · split at h
        · cases h
        · obtain ⟨M, h2, rfl⟩ := Tr.cons_ok h
          have := ih _ _ _ M (hd _) h2; have := ht isDg
          simp only [joinL, List.length_cons, List.length_append]; omega
      split at h
      · obtain ⟨M, h2, rfl⟩ := Tr.cons_ok h
        have := ih _ _ _ M (by omega) h2
        simp only [joinL, List.length_cons, List.length_append, List.length_nil]; omega
      · cases h
end Go.Proofs.YtlameeijogdckaaDoor
