/-
  Tokens of texts by places: what the walks of the lexer ask. Plain laws; no program is in sight here.
-/
import Derived.Test.YtlameeijogdckaaDoorLy
import Derived.Lib.Bytealg
namespace Go.Proofs.YtlameeijogdckaaDoor
def byteAt (s : ByteArray) (k : Nat) : UInt8 := s.data.toList.getD k 0
theorem str_len (s : ByteArray) : s.size = s.data.toList.length := Lib.size_eq s
theorem str_drop {s : ByteArray} {k : Nat} (h : k < s.size) : s.data.toList.drop k = byteAt s k :: s.data.toList.drop (k + 1) := by
  rw [str_len] at h
  unfold byteAt
  rw [List.drop_eq_getElem_cons h, List.getD_eq_getElem?_getD, List.getElem?_eq_getElem h]
  rfl
theorem ext_take (s : ByteArray) (a k : Nat) : s.extract a (a + k) = ⟨((s.data.toList.drop a).take k).toArray⟩ := by
  apply ByteArray.ext
  apply Array.toList_inj.1
  rw [ByteArray.data_extract, Array.toList_extract]
  simp [List.extract]
theorem idx_ge (l : List UInt8) (c : UInt8) : -1 ≤ Lib.indexByte l c := by
  induction l with
  | nil => exact Int.le_refl _
  | cons b l ih =>
    unfold Lib.indexByte
    split
    · decide
    · split
      · exact Int.le_refl _
      · omega
theorem idx_mem (l : List UInt8) (c : UInt8) : (l.contains c = true ∧ 0 ≤ Lib.indexByte l c) ∨ (l.contains c = false ∧ Lib.indexByte l c = -1) := by
  induction l with
  | nil => right; exact ⟨rfl, rfl⟩
  | cons b l ih =>
    unfold Lib.indexByte
    by_cases hb : (b == c) = true
    · left
      rw [if_pos hb]
      have : b = c := by simpa using hb
      exact ⟨by simp [this], Int.le_refl _⟩
    · rw [if_neg hb]
      have hc : (c == b) = false := by
        rw [beq_eq_false_iff_ne]; intro e; exact hb (by simp [e])
      rw [List.contains_cons, hc, Bool.false_or]
      have := idx_ge l c
      rcases ih with ⟨h1, h2⟩ | ⟨h1, h2⟩
      · left
        refine ⟨h1, ?_⟩
        rw [if_neg (by simp; omega)]; omega
      · right
        exact ⟨h1, by rw [if_pos (by simp [h2])]⟩
theorem idx_lf (l : List UInt8) : (Lib.indexByte l 10 = -1 ∧ runL notLF l = l.length) ∨ (Lib.indexByte l 10 = ((runL notLF l : Nat) : Int) ∧ runL notLF l < l.length) := by
  induction l with
  | nil => left; exact ⟨rfl, rfl⟩
  | cons b l ih =>
    unfold Lib.indexByte
    by_cases hb : b = 10
    · subst hb
      right
      rw [if_pos (by decide), runL_zero (by decide)]
      exact ⟨rfl, by simp⟩
    · rw [if_neg (by simp [hb])]
      have hn : notLF b = true := by
        simp only [notLF, Bool.not_eq_true', decide_eq_false_iff_not]
        intro e
        exact hb (by rw [← UInt8.toNat_inj, e]; rfl)
      rw [runL_pos hn, List.length_cons]
      rcases ih with ⟨h1, h2⟩ | ⟨h1, h2⟩
      · left; rw [if_pos (by simp [h1])]; exact ⟨rfl, by omega⟩
      · right; rw [if_neg (by simp [h1])]; exact ⟨by omega, by omega⟩
theorem run_step {p : UInt8 → Bool} {s : ByteArray} {k : Nat} (h : k < s.size) (hp : p (byteAt s k) = true) : runL p (s.data.toList.drop k) = runL p (s.data.toList.drop (k + 1)) + 1 := by
  rw [str_drop h, runL_pos hp]
theorem run_stop {p : UInt8 → Bool} {s : ByteArray} {k : Nat} (h : k < s.size) (hp : p (byteAt s k) = false) : runL p (s.data.toList.drop k) = 0 := by
  rw [str_drop h, runL_zero hp]
theorem run_end {p : UInt8 → Bool} {s : ByteArray} {k : Nat} (h : s.size ≤ k) : runL p (s.data.toList.drop k) = 0 := by
  rw [List.drop_of_length_le (by rw [← str_len]; exact h)]; rfl
theorem run_le {p : UInt8 → Bool} {s : ByteArray} {k : Nat} : runL p (s.data.toList.drop k) ≤ s.size - k := by
  have := runL_le p (s.data.toList.drop k)
  rw [List.length_drop, ← str_len] at this; exact this
/-- The tokens from place k on. -/
def tkAt (s : ByteArray) (k n c : Nat) : Tr := toks (s.data.toList.drop k) n c
theorem tk_end {s : ByteArray} {n c : Nat} : tkAt s s.size n c = .ok [⟨0, [], n, c⟩] := by
  unfold tkAt; rw [List.drop_of_length_le (by rw [← str_len]; exact Nat.le_refl _)]; rfl
theorem tk_nl {s : ByteArray} {k n c : Nat} (h : k < s.size) (hb : (byteAt s k).toNat = 10) : tkAt s k n c = tkAt s (k + 1) (n + 1) 1 := by
  unfold tkAt; rw [str_drop h, toks_cons, if_pos hb]
theorem tk_bl {s : ByteArray} {k n c : Nat} (h : k < s.size) (hb : isBl (byteAt s k) = true) : tkAt s k n c = tkAt s (k + 1) n (c + 1) := by
  unfold tkAt; rw [str_drop h, toks_cons, if_neg (cls_bl hb).1, if_pos hb]
theorem tk_cm {s : ByteArray} {k n c r : Nat} (h : k < s.size) (hb : (byteAt s k).toNat = 35) (hr : runL notLF (s.data.toList.drop k) = r) : tkAt s k n c = tkAt s (k + r) n (c + r) := by
  have h1 := cls_cm hb
  rw [run_step h (by simp [notLF, h1.1])] at hr
  unfold tkAt
  subst hr
  rw [str_drop h, toks_cons, if_neg h1.1, if_neg (by rw [h1.2.1]; decide), if_pos hb, List.drop_drop, show k + (runL notLF (s.data.toList.drop (k + 1)) + 1) = k + 1 + runL notLF (s.data.toList.drop (k + 1)) by omega]
theorem take_run {p : UInt8 → Bool} {s : ByteArray} {k r : Nat} (h : k < s.size) (hp : p (byteAt s k) = true) (hr : runL p (s.data.toList.drop k) = r) :
    ∃ q, r = q + 1 ∧ runL p (s.data.toList.drop (k + 1)) = q ∧ (s.data.toList.drop k).take r = byteAt s k :: (s.data.toList.drop (k + 1)).take q ∧ (s.data.toList.drop (k + 1)).drop q = s.data.toList.drop (k + r) := by
  rw [run_step h hp] at hr
  refine ⟨runL p (s.data.toList.drop (k + 1)), hr.symm, rfl, ?_, ?_⟩
  · rw [← hr, str_drop h, List.take_succ_cons]
  · rw [List.drop_drop, show k + 1 + runL p (s.data.toList.drop (k + 1)) = k + r by omega]
theorem tk_lt {s : ByteArray} {k n c r : Nat} (h : k < s.size) (hb : isLetter (byteAt s k) = true) (hr : runL isWd (s.data.toList.drop k) = r) :
    tkAt s k n c = if 24 < r then .er 2 n c ((s.data.toList.drop k).take r) else Tr.cons ⟨1, (s.data.toList.drop k).take r, n, c⟩ (tkAt s (k + r) n (c + r)) := by
  have h1 := cls_lt hb
  obtain ⟨q, rfl, hq, ht, hd⟩ := take_run h (p := isWd) (by simp [isWd, hb]) hr
  unfold tkAt
  rw [ht, ← hd]
  conv => lhs; rw [str_drop h, toks_cons, if_neg h1.1, if_neg (by rw [h1.2.1]; decide), if_neg h1.2.2.1, if_pos hb, hq]
theorem tk_dg {s : ByteArray} {k n c r : Nat} (h : k < s.size) (hb : isDg (byteAt s k) = true) (hr : runL isDg (s.data.toList.drop k) = r) :
    tkAt s k n c = if 4096 < r then .er 2 n c ((s.data.toList.drop k).take r) else Tr.cons ⟨2, (s.data.toList.drop k).take r, n, c⟩ (tkAt s (k + r) n (c + r)) := by
  have h1 := cls_dg hb
  obtain ⟨q, rfl, hq, ht, hd⟩ := take_run h (p := isDg) hb hr
  unfold tkAt
  rw [ht, ← hd]
  conv => lhs; rw [str_drop h, toks_cons, if_neg h1.1, if_neg (by rw [h1.2.1]; decide), if_neg h1.2.2.1, if_neg (by rw [h1.2.2.2.1]; decide), if_pos hb, hq]
theorem take_one {s : ByteArray} {k : Nat} (h : k < s.size) : (s.data.toList.drop k).take 1 = [byteAt s k] := by rw [str_drop h]; rfl
theorem tk_sg {s : ByteArray} {k n c : Nat} (h : k < s.size) (hb : isSg (byteAt s k) = true) : tkAt s k n c = Tr.cons ⟨3, (s.data.toList.drop k).take 1, n, c⟩ (tkAt s (k + 1) n (c + 1)) := by
  have h1 := cls_sg hb
  rw [take_one h]
  unfold tkAt
  rw [str_drop h, toks_cons, if_neg h1.1, if_neg (by rw [h1.2.1]; decide), if_neg h1.2.2.1, if_neg (by rw [h1.2.2.2.1]; decide), if_neg (by rw [h1.2.2.2.2.1]; decide), if_pos hb]
theorem tk_ot {s : ByteArray} {k n c : Nat} (h : k < s.size) (h0 : (byteAt s k).toNat ≠ 10) (h1 : isBl (byteAt s k) = false) (h2 : (byteAt s k).toNat ≠ 35) (h3 : isLetter (byteAt s k) = false) (h4 : isDg (byteAt s k) = false) (h5 : isSg (byteAt s k) = false) :
    tkAt s k n c = .er 1 n c ((s.data.toList.drop k).take 1) := by
  rw [take_one h]
  unfold tkAt
  rw [str_drop h, toks_cons, if_neg h0, if_neg (by rw [h1]; decide), if_neg h2, if_neg (by rw [h3]; decide), if_neg (by rw [h4]; decide), if_neg (by rw [h5]; decide)]
/-- What stands before: tokens that have been read. -/
def Tr.pre (L : List Tk) (r : Tr) : Tr := L.foldr Tr.cons r
theorem Tr.pre_snoc (L : List Tk) (t : Tk) (r : Tr) : Tr.pre L (Tr.cons t r) = Tr.pre (L ++ [t]) r := by unfold Tr.pre; rw [List.foldr_append]; rfl
theorem Tr.pre_ok (L M : List Tk) : Tr.pre L (.ok M) = .ok (L ++ M) := by
  induction L with
  | nil => rfl
  | cons t L ih => show Tr.cons t (Tr.pre L (.ok M)) = _; rw [ih]; rfl
theorem Tr.pre_er (L : List Tk) (k n c : Nat) (s : List UInt8) : Tr.pre L (.er k n c s) = .er k n c s := by
  induction L with
  | nil => rfl
  | cons t L ih => show Tr.cons t (Tr.pre L (.er k n c s)) = _; rw [ih]; rfl
end Go.Proofs.YtlameeijogdckaaDoor
