/-
  Tokens of texts: plain laws. 'toks l n c': the tokens of the bytes l from line n and column c on, or the first error. No program is in sight here.
-/
namespace Go.Proofs.YtlameeijogdckaaDoor

def isLetter (b : UInt8) : Bool := (decide (97 ≤ b.toNat) && decide (b.toNat ≤ 122)) || (decide (65 ≤ b.toNat) && decide (b.toNat ≤ 90)) || decide (b.toNat = 95)
def isDg (b : UInt8) : Bool := decide (48 ≤ b.toNat) && decide (b.toNat ≤ 57)
def isBl (b : UInt8) : Bool := decide (b.toNat = 32) || decide (b.toNat = 9) || decide (b.toNat = 13)
def signL : List UInt8 := [40, 41, 123, 125, 44, 59, 61, 43, 45, 42, 47, 94, 126]
def isSg (b : UInt8) : Bool := signL.contains b
def isWd (b : UInt8) : Bool := isLetter b || isDg b
def notLF (b : UInt8) : Bool := !decide (b.toNat = 10)
/-- The length of the longest run of bytes with a property at the head. -/
def runL (p : UInt8 → Bool) : List UInt8 → Nat
  | [] => 0
  | b :: l => if p b = true then runL p l + 1 else 0
structure Tk where
  kind : Nat
  text : List UInt8
  line : Nat
  col : Nat
inductive Tr
  | ok (l : List Tk)
  | er (kind line col : Nat) (text : List UInt8)
def Tr.cons (t : Tk) : Tr → Tr
  | .ok l => .ok (t :: l)
  | .er k n c s => .er k n c s
theorem runL_le (p : UInt8 → Bool) : ∀ l, runL p l ≤ l.length
  | [] => Nat.le_refl _
  | b :: l => by
    unfold runL
    split
    · have := runL_le p l; rw [List.length_cons]; omega
    · exact Nat.zero_le _
theorem runL_pos {p : UInt8 → Bool} {b : UInt8} {l : List UInt8} (h : p b = true) : runL p (b :: l) = runL p l + 1 := by
  show (if p b = true then _ else _) = _
  rw [if_pos h]
theorem runL_zero {p : UInt8 → Bool} {b : UInt8} {l : List UInt8} (h : p b = false) : runL p (b :: l) = 0 := by
  show (if p b = true then _ else _) = _
  rw [if_neg (by rw [h]; exact Bool.false_ne_true)]
/-- What comes behind a token's bytes. -/
def toksF : Nat → List UInt8 → Nat → Nat → Tr
  | 0, _, _, _ => .ok []
  | _ + 1, [], n, c => .ok [⟨0, [], n, c⟩]
  | f + 1, b :: l, n, c =>
    if b.toNat = 10 then toksF f l (n + 1) 1
    else if isBl b = true then toksF f l n (c + 1)
    else if b.toNat = 35 then toksF f (l.drop (runL notLF l)) n (c + (runL notLF l + 1))
    else if isLetter b = true then
      if 24 < runL isWd l + 1 then .er 2 n c (b :: l.take (runL isWd l)) else Tr.cons ⟨1, b :: l.take (runL isWd l), n, c⟩ (toksF f (l.drop (runL isWd l)) n (c + (runL isWd l + 1)))
    else if isDg b = true then
      if 4096 < runL isDg l + 1 then .er 2 n c (b :: l.take (runL isDg l)) else Tr.cons ⟨2, b :: l.take (runL isDg l), n, c⟩ (toksF f (l.drop (runL isDg l)) n (c + (runL isDg l + 1)))
    else if isSg b = true then Tr.cons ⟨3, [b], n, c⟩ (toksF f l n (c + 1))
    else .er 1 n c [b]
theorem toksF_fuel : ∀ f g l n c, l.length < f → l.length < g → toksF f l n c = toksF g l n c := by
  intro f
  induction f with
  | zero => intro g l n c h; omega
  | succ f ih =>
    intro g l n c hf hg
    obtain ⟨g, rfl⟩ : ∃ k, g = k + 1 := ⟨g - 1, by omega⟩
    cases l with
    | nil => rfl
    | cons b l =>
      rw [List.length_cons] at hf hg
      have hd : ∀ k n c, toksF f (l.drop k) n c = toksF g (l.drop k) n c := fun k n c => ih g _ n c (by rw [List.length_drop]; omega) (by rw [List.length_drop]; omega)
      have h0 : ∀ n c, toksF f l n c = toksF g l n c := fun n c => ih g _ n c (by omega) (by omega)
      simp only [toksF, hd, h0]
/-- The tokens of bytes, from line n and column c on. -/
def toks (l : List UInt8) (n c : Nat) : Tr := toksF (l.length + 1) l n c
theorem toks_nil (n c : Nat) : toks [] n c = .ok [⟨0, [], n, c⟩] := rfl
theorem toks_cons (b : UInt8) (l : List UInt8) (n c : Nat) : toks (b :: l) n c =
    if b.toNat = 10 then toks l (n + 1) 1
    else if isBl b = true then toks l n (c + 1)
    else if b.toNat = 35 then toks (l.drop (runL notLF l)) n (c + (runL notLF l + 1))
    else if isLetter b = true then
      if 24 < runL isWd l + 1 then .er 2 n c (b :: l.take (runL isWd l)) else Tr.cons ⟨1, b :: l.take (runL isWd l), n, c⟩ (toks (l.drop (runL isWd l)) n (c + (runL isWd l + 1)))
    else if isDg b = true then
      if 4096 < runL isDg l + 1 then .er 2 n c (b :: l.take (runL isDg l)) else Tr.cons ⟨2, b :: l.take (runL isDg l), n, c⟩ (toks (l.drop (runL isDg l)) n (c + (runL isDg l + 1)))
    else if isSg b = true then Tr.cons ⟨3, [b], n, c⟩ (toks l n (c + 1))
    else .er 1 n c [b] := by
  have hd : ∀ k n c, toksF (l.length + 1) (l.drop k) n c = toks (l.drop k) n c := fun k n c => toksF_fuel _ _ _ n c (by rw [List.length_drop]; omega) (by omega)
  show toksF (l.length + 1 + 1) (b :: l) n c = _
  simp only [toksF, hd]
  rfl
/-- The classes of bytes, as numbers of the program. -/
def cls (b : UInt8) : Int := if b.toNat = 10 ∨ isBl b = true then 1 else if b.toNat = 35 then 2 else if isDg b = true then 4 else if isLetter b = true then 3 else if isSg b = true then 5 else 0
/-- What the classes exclude, as one test. -/
def clsB (b : UInt8) : Bool :=
  (!decide (b.toNat = 10) || (!isBl b && !isLetter b && !isDg b && !isSg b && decide (cls b = 1))) && (!isBl b || (!decide (b.toNat = 10) && !isLetter b && !isDg b && !isSg b && decide (cls b = 1))) &&
  (!decide (b.toNat = 35) || (!decide (b.toNat = 10) && !isBl b && !isLetter b && !isDg b && !isSg b && decide (cls b = 2))) && (!isLetter b || (!decide (b.toNat = 10) && !isBl b && !decide (b.toNat = 35) && !isDg b && !isSg b && decide (cls b = 3))) &&
  (!isDg b || (!decide (b.toNat = 10) && !isBl b && !decide (b.toNat = 35) && !isLetter b && !isSg b && decide (cls b = 4))) && (!isSg b || (!decide (b.toNat = 10) && !isBl b && !decide (b.toNat = 35) && !isLetter b && !isDg b && decide (cls b = 5)))
theorem cls_all : ∀ n : Fin 256, clsB (UInt8.ofNat n.val) = true := by decide +kernel
theorem clsB_ok (b : UInt8) : clsB b = true := by
  have := cls_all ⟨b.toNat, b.toNat_lt⟩
  rwa [UInt8.ofNat_toNat] at this
theorem cls_nl {b : UInt8} (h : b.toNat = 10) : isBl b = false ∧ isLetter b = false ∧ isDg b = false ∧ isSg b = false ∧ cls b = 1 := by
  have := clsB_ok b
  simp [clsB, h] at this
  simp [this]
theorem cls_bl {b : UInt8} (h : isBl b = true) : b.toNat ≠ 10 ∧ isLetter b = false ∧ isDg b = false ∧ isSg b = false ∧ cls b = 1 := by
  have := clsB_ok b
  simp [clsB, h] at this
  simp [this]
theorem cls_cm {b : UInt8} (h : b.toNat = 35) : b.toNat ≠ 10 ∧ isBl b = false ∧ isLetter b = false ∧ isDg b = false ∧ isSg b = false ∧ cls b = 2 := by
  have := clsB_ok b
  simp [clsB, h] at this
  simp [this, h]
theorem cls_lt {b : UInt8} (h : isLetter b = true) : b.toNat ≠ 10 ∧ isBl b = false ∧ b.toNat ≠ 35 ∧ isDg b = false ∧ isSg b = false ∧ cls b = 3 := by
  have := clsB_ok b
  simp [clsB, h] at this
  simp [this]
theorem cls_dg {b : UInt8} (h : isDg b = true) : b.toNat ≠ 10 ∧ isBl b = false ∧ b.toNat ≠ 35 ∧ isLetter b = false ∧ isSg b = false ∧ cls b = 4 := by
  have := clsB_ok b
  simp [clsB, h] at this
  simp [this]
theorem cls_sg {b : UInt8} (h : isSg b = true) : b.toNat ≠ 10 ∧ isBl b = false ∧ b.toNat ≠ 35 ∧ isLetter b = false ∧ isDg b = false ∧ cls b = 5 := by
  have := clsB_ok b
  simp [clsB, h] at this
  simp [this]
theorem cls_ot {b : UInt8} (h0 : b.toNat ≠ 10) (h1 : isBl b = false) (h2 : b.toNat ≠ 35) (h3 : isLetter b = false) (h4 : isDg b = false) (h5 : isSg b = false) : cls b = 0 := by
  simp [cls, h0, h1, h2, h3, h4, h5]
end Go.Proofs.YtlameeijogdckaaDoor
