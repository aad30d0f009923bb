/-
  Contract of nat.Parse: the number that decimal digits stand for, or an error of package api.
-/
import Derived.Test.YtnkfbkdcplbgoaaDoorSen
import Derived.Test.YtnkfbkdcplbgoaaDoorPrs
import Derived.Test.YtnkfbkdcplbgoaaDoorCon
namespace Go.Proofs.YtnkfbkdcplbgoaaDoor
open Go.RowKit

/-- What Parse answers: 1: a syntax error, 2: too many digits, 0: a number. -/
def pKind (l : List UInt8) : Nat := if l = [] ∨ (∃ b ∈ l, isD b = false) then 1 else if 4096 < l.length then 2 else 0
/-- The block b has been made since W. -/
class Nw (b : Nat) (W : outParam World) : Prop where out : W.heap.size ≤ b
instance (priority := low) LtN.nw {q b : Nat} {W : World} [h : Nw b W] [k : LtN q W.heap.size] : LtN q b := ⟨Nat.lt_of_lt_of_le k.out h.out⟩
instance (priority := low) Ge.nw {w W : World} {b : Nat} [h : Nw b W] [k : Ge w W.heap.size] : Ge w b := ⟨Nat.le_trans k.out h.out⟩
/-- An error of package api of the kind at a is returned behind a value v. -/
def ErrRet (w : World) (v : Value) (a : Addr) (e : Ending) (w' : World) : Prop :=
  ∃ b s, e = .returned (.tuple #[v, .iface 114 (.pointer (some ⟨b, 0, none⟩))]) ∧ Bx w' b 118 [.iface 176 (.pointer (some a)), .int .i64 0, .int .i64 0, .string s] ∧ Ge w b ∧ Below w.heap.size w w'
theorem Calls.kErr {P : Program} {f : FuncId} {args : Array Value} {w : World} {v : Value} {a : Addr} {K : Ending → World → Prop} (h : Calls P f args w (ErrRet w v a))
    (hK : ∀ w' [Kp1 w w'] b s [Nw b w] [Bx w' b 118 [.iface 176 (.pointer (some a)), .int .i64 0, .int .i64 0, .string s]], K (.returned (.tuple #[v, .iface 114 (.pointer (some ⟨b, 0, none⟩))])) w') : Calls P f args w K := by
  refine h.mono ?_
  rintro e w' ⟨b, s, rfl, hx, hg, hb⟩
  exact @hK w' ⟨hb⟩ b s ⟨hg.out⟩ hx
/-- A number is returned, and no error. -/
def NumRet (w : World) (m k : Nat) (e : Ending) (w' : World) : Prop :=
  ∃ a l c, e = .returned (.tuple #[.slice a l c, .nilIface]) ∧ CN w' (.slice a l c) m k ∧ Below w.heap.size w w'
theorem Calls.kNum {P : Program} {f : FuncId} {args : Array Value} {w : World} {m k : Nat} {K : Ending → World → Prop} (h : Calls P f args w (NumRet w m k))
    (hK : ∀ w' [Kp1 w w'] a l c [CN w' (.slice a l c) m k], K (.returned (.tuple #[.slice a l c, .nilIface])) w') : Calls P f args w K := by
  refine h.mono ?_
  rintro e w' ⟨a, l, c, rfl, hx, hb⟩
  exact @hK w' ⟨hb⟩ a l c hx
def byteAt (s : ByteArray) (k : Nat) : UInt8 := s.data.toList.getD k 0
theorem byteAt_eq (s : ByteArray) (k : Nat) (h : k < s.size) : s[k]'h = byteAt s k := by
  unfold byteAt
  obtain ⟨⟨l⟩⟩ := s
  have h' : k < l.length := h
  rw [List.getD_eq_getElem?_getD, List.getElem?_eq_getElem h']
  rfl
theorem ix_str (s : ByteArray) (k : Nat) (hk : k < s.size) (w : World) : (Instr.index 9 (.string s) (.int .i64 (k : Int))).run Tryd.prog w = .ok (.int .u8 ((byteAt s k).toNat : Int)) w := by
  rw [run_index_string _ _ _ _ _ Tryd.underlying9, dif_pos ⟨by omega, by omega⟩, ← byteAt_eq s k hk]
  rfl
def strSize : Value → Nat | .string s => s.size | _ => 0
theorem str_len (s : ByteArray) : s.size = s.data.toList.length := Lib.size_eq s
theorem tens_alg {A Pc c0 B Px Pr Pm Pt : Nat} (h : A + Pc = c0 + 1000000000 * B) (h1 : Pr + Pm = Pt) (h2 : Pt = Pc + 1000000000 * Px) : A + Pr + Pm = c0 + 1000000000 * (B + Px) := by omega
/-- The digits behind a round of multiplication by 10^9. -/
theorem tens_step {D L : List Nat} {k c x : Nat} (hk : k < L.length) (hD : D.length = L.length) (hx : D.getD k 0 = x) (hxl : x < 4294967296) (hc : c ≤ 1000000000) {c0 : Nat}
    (h : val (L.take k) + 4294967296 ^ k * c = c0 + 1000000000 * val (D.take k)) :
    (c + x * 1000000000) / 4294967296 ≤ 1000000000 ∧ val ((L.set k ((c + x * 1000000000) % 4294967296)).take (k + 1)) + 4294967296 ^ (k + 1) * ((c + x * 1000000000) / 4294967296) = c0 + 1000000000 * val (D.take (k + 1)) := by
  refine ⟨Nat.div_le_of_le_mul (by omega), ?_⟩
  rw [val_take_snoc _ _ (by rw [List.length_set]; exact hk), val_take_snoc D k (by omega), hx]
  have e1 : (L.set k ((c + x * 1000000000) % 4294967296)).take k = L.take k := by rw [List.take_set, List.set_eq_of_length_le (by rw [List.length_take]; omega)]
  have e2 : (L.set k ((c + x * 1000000000) % 4294967296)).getD k 0 = (c + x * 1000000000) % 4294967296 := by
    rw [List.getD_eq_getElem?_getD, List.getElem?_set_self hk, Option.getD_some]
  rw [e1, e2, Nat.pow_succ]
  clear e1 e2
  generalize hs : c + x * 1000000000 = t
  generalize 4294967296 ^ k = P at *
  generalize val (L.take k) = A at *
  generalize val (D.take k) = B at *
  have h1 : P * (t % 4294967296) + P * 4294967296 * (t / 4294967296) = P * t := by
    rw [Nat.mul_assoc, ← Nat.mul_add, Nat.mod_add_div]
  have h2 : P * t = P * c + 1000000000 * (P * x) := by rw [← hs, Nat.mul_add, Nat.mul_comm x, Nat.mul_left_comm]
  exact tens_alg h h1 h2
theorem tens_close {D L : List Nat} {v0 T : Nat} (hD : D = nf v0) (hL : L.length = D.length) (hd : Dig L) (hv : val L = T) (hT : v0 ≤ T) : nf T = L := by
  have h1 := nf_len_mono hT
  have h2 := nf_prefix hd
  have h3 := nf_val_len hd
  rw [hv] at h2 h3
  rw [h2, List.take_of_length_le]
  subst hD
  omega
theorem tens_close2 {L : List Nat} {c T : Nat} (hd : Dig L) (hc : 0 < c) (hcl : c < 4294967296) (hv : val L + 4294967296 ^ L.length * c = T) : nf T = L ++ [c] := by
  rw [← hv, ← val_snoc]
  exact nf_val_of_last L c hd hcl (by omega)
/-- What nat.Parse returns. -/
def ParsePost (w : World) (l : List UInt8) (a0 a1 : Addr) (e : Ending) (w' : World) : Prop :=
  (pKind l = 1 ∧ ErrRet w (.slice none 0 0) a0 e w') ∨ (pKind l = 2 ∧ ErrRet w (.slice none 0 0) a1 e w') ∨ (pKind l = 0 ∧ NumRet w (bval l) 4097 e w')
theorem byteAt_mem {s : ByteArray} {k : Nat} (h : k < s.size) : byteAt s k ∈ s.data.toList := by
  rw [str_len] at h
  unfold byteAt
  rw [List.getD_eq_getElem?_getD, List.getElem?_eq_getElem h]
  exact List.getElem_mem h
theorem take_byte {s : ByteArray} {k : Nat} (h : k < s.size) : s.data.toList.take (k + 1) = s.data.toList.take k ++ [byteAt s k] := by
  rw [str_len] at h
  unfold byteAt
  rw [List.take_add_one, List.getElem?_eq_getElem h, List.getD_eq_getElem?_getD, List.getElem?_eq_getElem h]
  rfl
theorem not_isD {b : UInt8} (h : isD b = false) : b.toNat < 48 ∨ 57 < b.toNat := by
  unfold isD at h
  simp only [Bool.and_eq_false_iff, decide_eq_false_iff_not] at h
  omega
theorem nf_bval_len {l : List UInt8} (h : ∀ b ∈ l, isD b = true) : (nf (bval l)).length ≤ l.length :=
  nf_len_le (Nat.lt_of_lt_of_le (bval_lt l h) (Nat.pow_le_pow_left (by omega) _))

end Go.Proofs.YtnkfbkdcplbgoaaDoor
