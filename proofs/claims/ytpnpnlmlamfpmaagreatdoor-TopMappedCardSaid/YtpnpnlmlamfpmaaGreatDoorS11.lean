import Derived.Test.YtpnpnlmlamfpmaaGreatDoorS06
import Derived.Test.YtpnpnlmlamfpmaaGreatDoorS10
import Derived.Laws.Pointers
import Derived.Shelf.Bits.Mul64
namespace Go.Proofs.YtpnpnlmlamfpmaaGreatDoor
open Go.RowKit
set_option maxRecDepth 100000
section
def sgn (g : Bool) (n : Nat) : Int := if g then -(n : Int) else (n : Int)
def Zz (w : World) (g : Bool) (s : Value) (z : Int) (k : Nat) : Prop := g = decide (z < 0) ∧ Nn w s z.natAbs k
def Zi (w : World) (g : Bool) (s : Value) (z : Int) (k : Nat) : Prop := ∃ n, Rr w s n k ∧ z = sgn g n
theorem Gy (z : Int) : sgn (decide (z < 0)) z.natAbs = z := by
 unfold sgn
 by_cases h : z < 0
 ·simp [h]; omega
 ·simp [h]; omega
theorem Zx (g : Bool) (n : Nat) : (sgn g n).natAbs = n := by cases g <;> simp [sgn]
theorem Fs (n : Nat) : sgn true n = -(n : Int) := rfl
theorem G3 (n : Nat) : sgn false n = (n : Int) := rfl
variable {g : Bool} {k m n : Nat} {s : Value} {w w' : World} {x z : Int}
theorem Zz.zi (h : Zz w g s z k) : Zi w g s z k := ⟨_, h.2.rr, by rw [h.1, Gy]⟩
theorem Zz.keep (h : Zz w g s z k) (hb : Below w.heap.size w w') : Zz w' g s z k := ⟨h.1, h.2.keep hb⟩
theorem Zi.keep (h : Zi w g s z k) (hb : Below w.heap.size w w') : Zi w' g s z k := by
 obtain ⟨n, h1, h2⟩ := h; exact ⟨n, h1.keep hb, h2⟩
theorem Zz.cast {z' : Int} {k' : Nat} (h : Zz w g s z k) (e : z = z') (hk : k ≤ k') : Zz w g s z' k' := by
 subst e; exact ⟨h.1, h.2.mono hk⟩
theorem Qlp : decide (0 < (nf n).length) = decide (n ≠ 0) := decide_eq_decide.2 Qbn
theorem Zz.mk' {a : Option Addr} {l c : Nat} (h : Nn w (.slice a l c) n k) : Zz w (g && decide (0 < l)) (.slice a l c) (sgn g n) k := by
 refine ⟨?_, by rw [Zx]; exact h⟩
 rw [h.len, Qlp]
 cases g
 ·simp [sgn]
 ·by_cases h0 : n = 0 <;> simp [Fs, h0]; omega
def isgn (x : Int) : Int := if x < 0 then -1 else if 0 < x then 1 else 0
theorem Qj9 (h : m = 0) : (((nbits m : Nat) : Int) == 0) = true := by subst h; rfl
theorem Rh (h : m ≠ 0) : (((nbits m : Nat) : Int) == 0) = false := by
 rw [Mi h, beq_eq_false_iff_ne]
 have h1 := Bw h
 have h2 := Ic m h
 have h3 := (Ny (by have := An (B9 m) ((nf m).length - 1); omega) h2).1
 omega
theorem F8 (x : Int) : (x < 0 ∧ isgn x = -1) ∨ (x = 0 ∧ isgn x = 0) ∨ (0 < x ∧ isgn x = 1) := by
 unfold isgn
 rcases Int.lt_trichotomy x 0 with h | h | h
 ·exact .inl ⟨h, by rw [if_pos h]⟩
 ·exact .inr (.inl ⟨h, by rw [if_neg (by omega), if_neg (by omega)]⟩)
 ·exact .inr (.inr ⟨h, by rw [if_neg (by omega), if_pos h]⟩)
theorem S5 (h : 0 < sgn g m) : sgn g m = (m : Int) := by cases g <;> simp [sgn] at * <;> omega
theorem Ls (x : Int) : -1 ≤ isgn x ∧ isgn x ≤ 1 := by
 rcases F8 x with ⟨_, e⟩ | ⟨_, e⟩ | ⟨_, e⟩ <;> rw [e] <;> omega
theorem Xp (h1 : -9223372036854775808 ≤ x) (h0 : x < 0) : IntKind.u64.wrap (-IntKind.u64.wrap x) = ((x.natAbs : Nat) : Int) := by
 rw [IntKind.wrap_u64, IntKind.wrap_u64]; omega
theorem Qmg (h : m ≤ 9223372036854775808) : wrap64 (IntKind.u64.wrap (-(m : Int))) = -(m : Int) := by
 rw [IntKind.wrap_u64]; unfold wrap64; omega
def Kv (x : Int) : Value := .tuple #[.int .i64 (if -9223372036854775808 ≤ x ∧ x < 9223372036854775808 then x else 0), .bool (decide (-9223372036854775808 ≤ x ∧ x < 9223372036854775808))]
theorem Mx (h : -9223372036854775808 ≤ x ∧ x < 9223372036854775808) : Kv x = .tuple #[.int .i64 x, .bool true] := by
 unfold Kv; rw [if_pos h, decide_eq_true h]
theorem Rk (h : ¬ (-9223372036854775808 ≤ x ∧ x < 9223372036854775808)) : Kv x = .tuple #[.int .i64 0, .bool false] := by
 unfold Kv; rw [if_neg h, decide_eq_false h]
end
theorem Zz.zero (w : World) (k : Nat) : Zz w false (.slice none 0 0) 0 k := ⟨rfl, Nn.nil w k⟩
theorem Qnz {g : Bool} {n : Nat} : sgn g n = 0 ↔ n = 0 := by cases g <;> simp [sgn]
def Oj (k : IntKind) (w : World) (a : Option Addr) (len cap : Nat) (zs : List Int) : Prop :=
 (a = none ∧ len = 0 ∧ cap = 0 ∧ zs = []) ∨
 ∃ x, a = some x ∧ len ≤ cap ∧ cap ≤ maxLen ∧ zs.length = cap ∧ (∀ i, i < zs.length → w.cell? (x.add i) = some (.int k (zs.getD i 0))) ∧ ∀ n ∈ zs, (Lit.int k n).wf = true
theorem Qal {n : Int} (h : (Lit.int .i64 n).wf = true) : -9223372036854775808 ≤ n ∧ n < 9223372036854775808 := by
 have h2 : -9223372036854775808 ≤ n ∧ n ≤ 9223372036854775807 := by simpa [Lit.wf, IntKind.min, IntKind.max, IntKind.signed, IntKind.bits] using h
 omega
section
set_option maxHeartbeats 40000000
set_option synthInstance.maxHeartbeats 1000000
set_option synthInstance.maxSize 100000
def Bo (w : World) (g : Nat) : Prop :=
 ∃ (a : Option Addr) (n c at_ : Nat) (zs : List Int), w.heap[g]? = some (.cells #[.slice a n c, .int .i64 (at_ : Int)] 75 (0, 0)) ∧ n ≤ 400 ∧ at_ ≤ n ∧ zs.length = n ∧
  (∀ z ∈ zs, -9223372036854775808 ≤ z ∧ z < 9223372036854775808) ∧
  (0 < n → ∃ b off, a = some ⟨b, off, none⟩ ∧ b < g ∧ ∀ i, i < n → w.cell? ⟨b, off + i, none⟩ = some (.int .i64 (zs.getD i 0)))
variable {a b c w w' : World}
theorem Ep {k : Nat} {o : Obj} (h : w.heap[k]? = some o) : k < w.heap.size := by
 rcases Nat.lt_or_ge k w.heap.size with hlt | hge
 ·exact hlt
 ·rw [Array.getElem?_eq_none hge] at h; cases h
variable {g : Nat}
theorem Bo.lt (h : Bo w g) : g < w.heap.size := by
 obtain ⟨a, n, c, at_, zs, hh, _⟩ := h; exact Ep hh
theorem Bo.same (h : Bo w g) (hs : ∀ k, k ≤ g → w'.heap[k]? = w.heap[k]?) : Bo w' g := by
 obtain ⟨a, n, c, at_, zs, hh, h1, h2, h3, h4, h5⟩ := h
 refine ⟨a, n, c, at_, zs, (hs g (Nat.le_refl _)).trans hh, h1, h2, h3, h4, fun h0 => ?_⟩
 obtain ⟨b, off, e, hb, hc⟩ := h5 h0
 exact ⟨b, off, e, hb, fun i hi => (World.cell?_of_block (hs b (by omega))).trans (hc i hi)⟩
theorem Bo.keep (h : Bo w g) (hb : Below w.heap.size w w') : Bo w' g :=
 h.same fun k hk => hb.block k (Nat.lt_of_le_of_lt hk h.lt)
theorem Qhx (w : World) (row : Option Nat) : w.grownBy w row := ⟨rfl, rfl, rfl, Nat.le_refl _, fun _ _ _ => rfl⟩
variable {row : Option Nat}
theorem Qco (h : a.grownBy b row) (k : b.grownBy c row) : a.grownBy c row :=
 ⟨k.os.trans h.os, k.tape.trans h.tape, k.output.trans h.output, Nat.le_trans h.size k.size, fun i hi hr => (k.block i (Nat.lt_of_lt_of_le hi h.size) hr).trans (h.block i hi hr)⟩
theorem Q7 (h : a.grownBy b row) (k : Below b.heap.size b c) : a.grownBy c row :=
 ⟨k.os.trans h.os, k.tape.trans h.tape, k.output.trans h.output, Nat.le_trans h.size k.size, fun i hi hr => (k.block i (Nat.lt_of_lt_of_le hi h.size)).trans (h.block i hi hr)⟩
theorem Qlq {row' : Option Nat} (h : a.grownBy b row) (k : b.grownBy c row') (hr' : ∀ i, row' = some i → a.heap.size ≤ i) : a.grownBy c row :=
 ⟨k.os.trans h.os, k.tape.trans h.tape, k.output.trans h.output, Nat.le_trans h.size k.size, fun i hi hr => (k.block i (Nat.lt_of_lt_of_le hi h.size) (fun e => by have := hr' i e.symm; omega)).trans (h.block i hi hr)⟩
theorem Fu (h : Below a.heap.size a b) : a.grownBy b row :=
 ⟨h.os, h.tape, h.output, h.size, fun i hi _ => h.block i hi⟩
theorem Qjh (h : Below w.heap.size w a) (hg : a.grownBy b (some g)) (hgw : w.heap.size ≤ g) : Below w.heap.size w b :=
 ⟨hg.os.trans h.os, hg.tape.trans h.tape, hg.output.trans h.output, Nat.le_trans h.size hg.size, fun i hi => (hg.block i (Nat.lt_of_lt_of_le hi h.size) (fun e => by injection e with e; omega)).trans (h.block i hi)⟩
theorem Qg0 {z n : Int} (hn : 0 < n) : z.tmod n < n := Int.tmod_lt_of_pos z hn
theorem Qc1 {z n : Int} (hn : 0 < n) : -n < z.tmod n := by
 rcases Int.lt_or_le z 0 with h0 | h0
 ·have e : z.tmod n = -((-z).tmod n) := by rw [Int.neg_tmod, Int.neg_neg]
  have := Int.tmod_lt_of_pos (-z) hn
  omega
 ·have := Int.tmod_nonneg n h0
  omega
theorem Qlj (w : World) (g n : Nat) (hn : 0 < n) (hn2 : n ≤ 1000000) (ht : Bo w g) :
  Calls Tryz.prog 8 #[.pointer (some ⟨g, 0, none⟩), .int .i64 (n : Int)] w fun e w' => ∃ v : Nat, v < n ∧ e = .returned (.int .i64 (v : Int)) ∧ Bo w' g ∧ w.grownBy w' (some g) := by
 have ht' := ht
 obtain ⟨a, m, c, k, zs, hh, h1, h2, h3, h4, h5⟩ := ht
 have c0 : w.cell? ⟨g, 0, none⟩ = some (.slice a m c) := by rw [cell_of_row w g 0 _ _ _ hh]; rfl
 have c1 : w.cell? ⟨g, 1, none⟩ = some (.int .i64 (k : Int)) := by rw [cell_of_row w g 1 _ _ _ hh]; rfl
 have f1 : w.frozen? ⟨g, 1, none⟩ = false := frozen_of_row w g 1 _ _ hh
 have HT := Lib.hid ht'; have HH := Lib.hid hh; clear hh ht'; go_enter Tryz.func8, Tryz.ntmps8
 by_cases hk : m ≤ k
 ·go_wp2
  go_quiet (fail)
  go_wp2; go_ret
  exact ⟨0, hn, rfl, HT.out.same fun _ _ => rfl, ⟨rfl, rfl, rfl, Nat.le_refl _, fun _ _ _ => rfl⟩⟩
 ·obtain ⟨b, off, rfl, hb, hc⟩ := h5 (by omega)
  have ck := hc k (by omega)
  have hz := h4 (zs.getD k 0) (by
   rw [List.getD_eq_getElem?_getD, List.getElem?_eq_getElem (by omega)]; exact List.getElem_mem _)
  generalize zs.getD k 0 = z at *
  have b0 : (0 : Int) ≤ (k : Int) := (by omega); have b1 : (k : Int) < (m : Int) := (by omega); have hn3 : (0 : Int) < (n : Int) := (by omega)
  have t1 := @Qg0 z (n : Int) hn3
  have t2 := @Qc1 z (n : Int) hn3
  clear hc; go_wp2
  go_quiet (fail)
  go_wp2
  go_quiet (fail)
  go_wp2
  all_goals go_ret
  all_goals
   have hfin : ∀ nq : Nat, Bo ((w.drewN nq).setCell ⟨g, 1, none⟩ (.int .i64 ((k : Int) + 1))) g ∧ w.grownBy ((w.drewN nq).setCell ⟨g, 1, none⟩ (.int .i64 ((k : Int) + 1))) (some g) := fun nq => by
    have hh2 : (w.drewN nq).heap[g]? = some (.cells #[.slice (some ⟨b, off, none⟩) m c, .int .i64 (k : Int)] 75 (0, 0)) := HH.out
    refine ⟨⟨some ⟨b, off, none⟩, m, c, k + 1, zs, ?_, h1, by omega, h3, h4, fun h0 => ?_⟩, ?_⟩
    ·rw [heap_setCell_same _ g 1 _ _ _ hh2]; rfl
    ·obtain ⟨b', off', e, hb', hc⟩ := h5 h0
     refine ⟨b', off', e, hb', fun i hi => ?_⟩
     rw [World.cell?_setCell_other _ _ _ _ (fun e2 => by injection e2 with e3; omega)]; exact hc i hi
    ·exact ⟨rfl, rfl, rfl, by simp, fun i hi hr => heap_setCell_other _ ⟨g, 1, none⟩ i _ (fun e => hr (by rw [e]))⟩
  ·have hy : z.tmod (n : Int) < 0 := by assumption
   refine ⟨(z.tmod (n : Int) + (n : Int)).toNat, by omega, ?_, (hfin _).1, (hfin _).2⟩
   rw [Int.toNat_of_nonneg (by omega)]; rfl
  ·have hy : 0 ≤ z.tmod (n : Int) := by assumption
   refine ⟨(z.tmod (n : Int)).toNat, by omega, ?_, (hfin _).1, (hfin _).2⟩
   rw [Int.toNat_of_nonneg (by omega)]; rfl
theorem Qmk (a0 : Option Addr) (len0 cap0 : Nat) (z0 : List Int) (w : World) (w0 : Oj .i64 w a0 len0 cap0 z0) :
  Calls Tryz.prog 4 #[.slice a0 len0 cap0] w fun e w' => e = .returned (.pointer (some ⟨w.heap.size, 0, none⟩)) ∧ Bo w' w.heap.size ∧ Below w.heap.size w w' := by
 have hc : len0 ≤ cap0 ∧ cap0 ≤ 9223372036854775807 := by
  rcases w0 with ⟨_, rfl, rfl, _⟩ | ⟨x, _, h1, h2, _⟩
  ·omega
  ·unfold maxLen at h2; omega
 have fin : ∀ n, n = min len0 400 → Bo (w.alloc (.cells #[.slice a0 n cap0, .int .i64 0] 75)) w.heap.size := by
  intro n hn
  refine ⟨a0, n, cap0, 0, z0.take n, heap_alloc_new w _, by omega, by omega, ?_, ?_, fun h0 => ?_⟩
  ·rcases w0 with ⟨_, rfl, rfl, rfl⟩ | ⟨x, _, h1, h2, h3, _⟩
   ·simp at hn; subst hn; rfl
   ·rw [List.length_take]; omega
  ·intro z hz
   rcases w0 with ⟨_, _, _, rfl⟩ | ⟨x, _, h1, h2, h3, h4, h5⟩
   ·simp at hz
   ·exact Qal (h5 z (List.mem_of_mem_take hz))
  ·rcases w0 with ⟨_, rfl, rfl, rfl⟩ | ⟨x, rfl, h1, h2, h3, h4, h5⟩
   ·omega
   ·obtain ⟨b, off, spot⟩ := x
    have hspot : spot = none := by simpa [Addr.add] using World.cell?_spot (h4 0 (by omega))
    subst hspot
    have hlt : b < w.heap.size := by
     have := El (h4 0 (by omega))
     simpa [Addr.add] using this
    refine ⟨b, off, rfl, hlt, fun i hi => ?_⟩
    rw [World.cell?_alloc_past _ _ _ hlt]
    have hc := h4 i (by omega)
    rw [Vn] at hc; rw [hc]
    congr 2
    rw [List.getD_eq_getElem?_getD, List.getD_eq_getElem?_getD, List.getElem?_take, if_pos hi]
 by_cases h4 : len0 ≤ 400
 ·have hmin : min (len0 : Int) 400 = (len0 : Int) := by omega
  have hf := fin len0 (by omega)
  clear fin w0; go_enter Tryz.func4, Tryz.ntmps4; go_wp2; go_ret; exact ⟨rfl, hf, Bh _ _⟩
 ·have hmin : min (len0 : Int) 400 = 400 := by omega
  have hf := fin 400 (by omega)
  clear fin w0; go_enter Tryz.func4, Tryz.ntmps4; go_wp2; go_ret; exact ⟨rfl, hf, Bh _ _⟩
end
theorem Qb3 (m : Nat) : m < 2 ^ nbits m := by
 by_cases hm : m = 0
 ·subst hm; exact Nat.pow_pos (by omega)
 ·rw [Mi hm]
  have hp := Bw hm
  have hd := An (B9 m) ((nf m).length - 1)
  have hb := Sw (x := (nf m).getD ((nf m).length - 1) 0) (by omega)
  have h1 := Dt (nf m) ((nf m).length - 1) (by omega)
  have h2 := C9 ((nf m).take ((nf m).length - 1)) (E7 (B9 m) _)
  rw [List.length_take, Nat.min_eq_left (by omega)] at h2; rw [Ck _ ((nf m).length - 1) (by omega), List.drop_eq_nil_of_le (by omega), Ay, Ah, Nat.mul_zero, Nat.add_zero] at h1
  generalize (nf m).getD ((nf m).length - 1) 0 = x at *; generalize (nf m).length - 1 = k at *
  have h3 : (4294967296 : Nat) ^ k = 2 ^ (32 * k) := by rw [Nat.pow_mul]
  rw [Nat.pow_add, ← h3]
  have h4 : 4294967296 ^ k * (x + 1) ≤ 4294967296 ^ k * 2 ^ blen x := Nat.mul_le_mul_left _ hb
  rw [Nat.mul_add] at h4; omega
section
variable {W W2 w : World} {g k n : Nat} {v : Value}
theorem Rd.tp {w' : World} {l : List Nat} (h : Rd w v l) (ht : Bo w g) (hg : w.grownBy w' (some g)) : Rd w' v l := by
 obtain ⟨a, cap, rfl, h1, h2, h3, h4⟩ := h
 refine ⟨a, cap, rfl, h1, h2, h3, fun h0 => ?_⟩
 obtain ⟨b, off, rfl, hc⟩ := h4 h0
 refine ⟨b, off, rfl, fun i hi => ?_⟩
 have hb : b ≠ g := by
  rintro rfl
  obtain ⟨a, n, c, at_, zs, hh, _⟩ := ht
  have := hc i hi
  rw [cell_of_row w b (off + i) _ _ _ hh] at this
  match off + i, this with
  | 0, this => simp at this
  | 1, this => simp at this
  | k + 2, this => simp at this
 have hlt := El (hc i hi)
 rw [World.cell?_of_block (hg.block b hlt (fun e => hb (Option.some.inj e)))]; exact hc i hi
theorem Nn.tp2 (hg : W.grownBy W2 (some g)) (ht : Bo W g) (h : Nn W v n k) : Nn W2 v n k := by
 exact ⟨h.1.tp ht hg, h.2⟩
theorem Rr.tp2 (hg : W.grownBy W2 (some g)) (ht : Bo W g) (h : Rr W v n k) : Rr W2 v n k := by
 obtain ⟨l, h1, h2⟩ := h; exact ⟨l, h1.tp ht hg, h2⟩
theorem Bo.al {o : Obj} (h : Bo W g) : Bo (W.alloc o) g := h.keep (Bh _ _)
theorem Bo.dr (h : Bo W g) : Bo W.drew g := h.keep (D0 (Below.refl _ _))
theorem Bo.set2 {p : Addr} {x : Value} (hp : g < p.block) (h : Bo W g) : Bo (W.setCell p x) g :=
 h.same fun k hk => Below.heap_setCell _ _ _ _ (by omega)
theorem Qgu {a0 : Option Addr} {len0 cap0 : Nat} {z0 : List Int} (w0 : Oj .i64 w a0 len0 cap0 z0) :
  Calls Tryz.prog 4 #[.slice a0 len0 cap0] w fun e w' => e = .returned (.pointer (some ⟨w.heap.size, 0, none⟩)) ∧ Bo w' w.heap.size ∧ Below w.heap.size w w' := Qmk a0 len0 cap0 z0 w w0
theorem Qah {n : Int} (ht : Bo w g) (h0 : 0 < n) (h1 : n ≤ 1000000) :
  Calls Tryz.prog 8 #[.pointer (some ⟨g, 0, none⟩), .int .i64 n] w fun e w' => ∃ v : Int, e = .returned (.int .i64 v) ∧ 0 ≤ v ∧ v < n ∧ Bo w' g ∧ w.grownBy w' (some g) := by
 obtain ⟨d, rfl⟩ := Int.eq_ofNat_of_zero_le (Int.le_of_lt h0)
 refine (Qlj w g d (by omega) (by omega) ht).mono ?_
 rintro e w' ⟨v, hv, rfl, ht', hg⟩
 exact ⟨v, rfl, by omega, by omega, ht', hg⟩
end
section
set_option maxHeartbeats 40000000
set_option synthInstance.maxHeartbeats 1000000
set_option synthInstance.maxSize 100000
variable {g : Nat}
theorem Qml {p q : Nat} (hq : q ≠ 0) (h : Nat.gcd p q = g) : Nat.gcd q (p % q) = g ∧ p % q < q := by
 refine ⟨?_, Nat.mod_lt _ (by omega)⟩
 rw [← h, Nat.gcd_comm p q, Nat.gcd_rec q p, Nat.gcd_comm]
theorem Iu {w : World} {x : Int} (b1 : -4611686018427387904 < x) (b2 : x < 4611686018427387904) :
  Calls Tryz.prog 201 #[.int .i64 x] w (fun e w' => e = .returned (.int .u64 (x.natAbs : Int)) ∧ w = w') := by
 by_cases h : x < 0
 ·have e : ((x.natAbs : Nat) : Int) = -x := by omega
  rw [e]; clear e; have h1 : 0 ≤ -x := (by omega); have h2 : -x < 4611686018427387904 := (by omega); go_enter Tryz.func201, Tryz.ntmps201; go_wp2; go_ret; exact ⟨rfl, rfl⟩
 ·have e : ((x.natAbs : Nat) : Int) = x := by omega
  rw [e]; clear e; have h1 : 0 ≤ x := (by omega); go_enter Tryz.func201, Tryz.ntmps201; go_wp2; go_ret; exact ⟨rfl, rfl⟩
theorem Ql2 {w : World} {x y : Nat} (hx : x < 18446744073709551616) (hy : y < 18446744073709551616) :
  Calls Tryz.prog 200 #[.int .u64 x, .int .u64 y] w (fun e w' => e = .returned (.tuple #[.int .u64 ((x * y / 18446744073709551616 : Nat) : Int), .int .u64 ((x * y % 18446744073709551616 : Nat) : Int)]) ∧ w = w') := by
 obtain ⟨bd, bt, bw, hhi⟩ := Lib.mul64_hi x y hx hy
 have ba := Lib.half_mul_le (a := x / 4294967296) (b := y / 4294967296) (by omega) (by omega)
 have bb := Lib.half_mul_le (a := x / 4294967296) (b := y % 4294967296) (by omega) (by omega)
 have bc := Lib.half_mul_le (a := x % 4294967296) (b := y / 4294967296) (by omega) (by omega)
 have ba' : x / 4294967296 * (y / 4294967296) < 18446744073709551616 := (by omega); have bb' : x / 4294967296 * (y % 4294967296) < 18446744073709551616 := (by omega); have bc' : x % 4294967296 * (y / 4294967296) < 18446744073709551616 := (by omega); have bh1 : x / 4294967296 * (y / 4294967296) + (x / 4294967296 * (y % 4294967296) + x % 4294967296 * (y % 4294967296) / 4294967296) / 4294967296 < 18446744073709551616 := (by omega); have bh : x / 4294967296 * (y / 4294967296) + (x / 4294967296 * (y % 4294967296) + x % 4294967296 * (y % 4294967296) / 4294967296) / 4294967296 + ((x / 4294967296 * (y % 4294967296) + x % 4294967296 * (y % 4294967296) / 4294967296) % 4294967296 + x % 4294967296 * (y / 4294967296)) / 4294967296 < 18446744073709551616 := (by omega); have HHI := Lib.hid hhi; clear hhi; go_enter Tryz.func200, Tryz.ntmps200; go_wp2; simp only [Mul64.maskN x hx, Mul64.maskN y hy, Mul64.divN, Mul64.mulN, Mul64.addN, Mul64.wrapN _ bd, Mul64.wrapN _ bb', Mul64.wrapN _ bt, Mul64.maskN _ bt, Mul64.wrapN _ bc', Mul64.wrapN _ bw, Mul64.wrapN _ ba', Mul64.wrapN _ bh1, Mul64.wrapN _ bh, Mul64.wrapM (x * y)]; rw [HHI.out]; go_ret2; exact ⟨rfl, rfl⟩
theorem Qct {w : World} {m n : Nat} (hm : m < 18446744073709551616) (hn : n < 18446744073709551616) :
  Calls Tryz.prog 202 #[.int .u64 m, .int .u64 n] w (fun e w' => e = .returned (.int .u64 (Nat.gcd m n : Nat)) ∧ Below w.heap.size w w') := by
 go_enter Tryz.func202, Tryz.ntmps202; go_wp2_with fail
 go_loopw [0, 1] (fun x y wx => ∃ p q : Nat, x = .int .u64 p ∧ y = .int .u64 q ∧ p < 18446744073709551616 ∧ q < 18446744073709551616 ∧ Hid (Below w.heap.size w wx) ∧ Hid (Nat.gcd p q = Nat.gcd m n)) (fun _ y _ => (intOf y).toNat)
 case atStart => exact ⟨m, n, rfl, rfl, hm, hn, Below.refl _ _, rfl⟩
 case round =>
  obtain ⟨p2, q2, rfl, rfl, hp2, hq2, hW2, hG2⟩ := hrel
  by_cases h0 : q2 = 0
  ·have HE : Hid (p2 = Nat.gcd m n) := by show _ = _; rw [← hG2.out, h0, Nat.gcd_zero_right]
   have hb : (((q2 : Nat) : Int) != 0) = false := by rw [h0]; rfl
   clear h0; go_wp2; go_ret
   exact ⟨by rw [← HE.out]; rfl, hW2.out⟩
  ·obtain ⟨g1, g2⟩ := Qml h0 hG2.out; have HG := Lib.hid g1; have HL := Lib.hid g2
   have hb : (((q2 : Nat) : Int) != 0) = true := by rw [bne_iff_ne]; omega
   have hb0 : (((q2 : Nat) : Int) == 0) = false := by rw [beq_eq_false_iff_ne]; omega
   have e2 : (p2 : Int) % (q2 : Int) = ((p2 % q2 : Nat) : Int) := by rw [Int.natCast_emod]
   have E2 := Lib.hid e2
   have HQ1 : Hid ((1 : Int) ≤ (q2 : Int)) := by show _ ≤ _; omega
   have r1 : (0 : Int) ≤ (p2 : Int) % (q2 : Int) := by rw [e2]; exact Int.natCast_nonneg _
   have r2 : (p2 : Int) % (q2 : Int) < 18446744073709551616 := by rw [e2]; omega
   clear g1 g2 e2 h0; go_wp2_with fail; clear hb hb0
   have hq1 : (1 : Int) ≤ (q2 : Int) := HQ1.out
   have hq0 : ((q2 : Int) == 0) = false := by rw [beq_eq_false_iff_ne]; omega
   have hqz : ¬ (q2 = 0) := (by omega)
   go_quiet (fail)
   go_wp2_with fail
   go_roundw
   case rel => rw [E2.out]; exact ⟨q2, p2 % q2, rfl, rfl, hq2, Nat.lt_trans HL.out hq2, Be hW2.out _, HG⟩
   case measure => rw [E2.out]; have := HL.out; simp [intOf]; omega
variable {w : World}
theorem Qv {m n : Nat} (hm : m < 18446744073709551616) (hn : n < 18446744073709551616) (h : Hid (Nat.gcd m n = g)) :
  Calls Tryz.prog 202 #[.int .u64 m, .int .u64 n] w (fun e w' => e = .returned (.int .u64 (g : Nat)) ∧ Below w.heap.size w w') := by
 have := @Qct w m n hm hn
 rw [h.out] at this; exact this
def tOk (a b : Int) : Bool := decide ((a * b).natAbs < 4611686018427387904)
def Qo (a b : Int) : Int := if (a * b).natAbs < 4611686018427387904 then a * b else 0
variable {a b : Int}
theorem Dv (h : (a * b).natAbs < 4611686018427387904) : Qo a b = a * b ∧ tOk a b = true := ⟨if_pos h, by simp [tOk, h]⟩
theorem Et (h : ¬ (a * b).natAbs < 4611686018427387904) : Qo a b = 0 ∧ tOk a b = false := ⟨if_neg h, by simp [tOk, h]⟩
theorem Og (h : (decide (a < 0) != decide (b < 0)) = true) : a * b = -((a.natAbs * b.natAbs : Nat) : Int) := by
 rw [Int.natCast_mul]
 by_cases h1 : a < 0 <;> by_cases h2 : b < 0 <;> simp [h1, h2] at h
 ·rw [show ((a.natAbs : Nat) : Int) = -a by omega, show ((b.natAbs : Nat) : Int) = b by omega, Int.neg_mul, Int.neg_neg]
 ·rw [show ((a.natAbs : Nat) : Int) = a by omega, show ((b.natAbs : Nat) : Int) = -b by omega, Int.mul_neg, Int.neg_neg]
theorem Qjq (h : (decide (a < 0) != decide (b < 0)) = false) : a * b = ((a.natAbs * b.natAbs : Nat) : Int) := by
 rw [Int.natCast_mul]
 by_cases h1 : a < 0 <;> by_cases h2 : b < 0 <;> simp [h1, h2] at h
 ·rw [show ((a.natAbs : Nat) : Int) = -a by omega, show ((b.natAbs : Nat) : Int) = -b by omega, Int.neg_mul_neg]
 ·rw [show ((a.natAbs : Nat) : Int) = a by omega, show ((b.natAbs : Nat) : Int) = b by omega]
theorem Cy (a1 : -4611686018427387904 < a) (a2 : a < 4611686018427387904) (b1 : -4611686018427387904 < b) (b2 : b < 4611686018427387904) :
  Calls Tryz.prog 156 #[.int .i64 a, .int .i64 b] w (fun e w' => e = .returned (.tuple #[.int .i64 (Qo a b), .bool (tOk a b)]) ∧ w = w') := by
 have CM := Lib.hid (@Ql2 w a.natAbs b.natAbs (by omega) (by omega)); have CA := Lib.hid (@Iu w a a1 a2); have CB := Lib.hid (@Iu w b b1 b2)
 have EM : (a * b).natAbs = a.natAbs * b.natAbs := Int.natAbs_mul a b
 by_cases h : a.natAbs * b.natAbs < 4611686018427387904
 ·obtain ⟨e1, e2⟩ := Dv (a := a) (b := b) (by omega); rw [e1, e2]; have d1 : a.natAbs * b.natAbs / 18446744073709551616 = 0 := (by omega); have d2 : a.natAbs * b.natAbs % 18446744073709551616 = a.natAbs * b.natAbs := (by omega); rw [d1, d2] at CM
  by_cases hs : (decide (a < 0) != decide (b < 0)) = true
  ·rw [Og hs]
   have hs2 : (decide (a < 0) == decide (b < 0)) = false := by simpa [bne] using hs
   have hs3 : (!(decide (a < 0) == decide (b < 0))) = true := hs
   clear EM e1 e2 d1 d2; obtain ⟨M, hM⟩ : ∃ M : Int, M = ((a.natAbs * b.natAbs : Nat) : Int) := ⟨_, rfl⟩; have m1 : 0 ≤ M := (by omega); have m2 : M < 4611686018427387904 := (by omega); rw [← hM] at CM ⊢; clear hM h; go_enter Tryz.func156, Tryz.ntmps156
   go_wp2_with (first | (go_at_call 201; first | ((with_reducible refine CA.out.mono ?_); rintro e w' ⟨rfl, rfl⟩) | ((with_reducible refine CB.out.mono ?_); rintro e w' ⟨rfl, rfl⟩)) | (go_at_call 200; (with_reducible refine CM.out.mono ?_); rintro e w' ⟨rfl, rfl⟩))
   go_ret2; exact ⟨rfl, rfl⟩
  ·have hs' : (decide (a < 0) != decide (b < 0)) = false := by simpa using hs
   rw [Qjq hs']
   have hs2 : (decide (a < 0) == decide (b < 0)) = true := by simpa [bne] using hs'
   have hs3 : (!(decide (a < 0) == decide (b < 0))) = false := hs'
   clear EM e1 e2 d1 d2 hs; obtain ⟨M, hM⟩ : ∃ M : Int, M = ((a.natAbs * b.natAbs : Nat) : Int) := ⟨_, rfl⟩; have m1 : 0 ≤ M := (by omega); have m2 : M < 4611686018427387904 := (by omega); rw [← hM] at CM ⊢; clear hM h; go_enter Tryz.func156, Tryz.ntmps156
   go_wp2_with (first | (go_at_call 201; first | ((with_reducible refine CA.out.mono ?_); rintro e w' ⟨rfl, rfl⟩) | ((with_reducible refine CB.out.mono ?_); rintro e w' ⟨rfl, rfl⟩)) | (go_at_call 200; (with_reducible refine CM.out.mono ?_); rintro e w' ⟨rfl, rfl⟩))
   go_ret2; exact ⟨rfl, rfl⟩
 ·obtain ⟨e1, e2⟩ := Et (a := a) (b := b) (by omega); rw [e1, e2]; clear EM e1 e2
  by_cases h2 : a.natAbs * b.natAbs < 18446744073709551616
  ·have d1 : a.natAbs * b.natAbs / 18446744073709551616 = 0 := by omega
   have d2 : a.natAbs * b.natAbs % 18446744073709551616 = a.natAbs * b.natAbs := (by omega); rw [d1, d2] at CM; obtain ⟨M, hM⟩ : ∃ M : Int, M = ((a.natAbs * b.natAbs : Nat) : Int) := ⟨_, rfl⟩; have m1 : 4611686018427387904 ≤ M := (by omega); have m2 : M < 18446744073709551616 := (by omega); rw [← hM] at CM; clear d1 d2 hM h h2; go_enter Tryz.func156, Tryz.ntmps156
   go_wp2_with (first | (go_at_call 201; first | ((with_reducible refine CA.out.mono ?_); rintro e w' ⟨rfl, rfl⟩) | ((with_reducible refine CB.out.mono ?_); rintro e w' ⟨rfl, rfl⟩)) | (go_at_call 200; (with_reducible refine CM.out.mono ?_); rintro e w' ⟨rfl, rfl⟩))
   go_ret2; exact ⟨rfl, rfl⟩
  ·have d1 : 0 < a.natAbs * b.natAbs / 18446744073709551616 := by omega
   generalize a.natAbs * b.natAbs / 18446744073709551616 = hi, a.natAbs * b.natAbs % 18446744073709551616 = lo at *
   have d2 : ((hi : Int) != 0) = true := by rw [bne_iff_ne]; omega
   clear h h2; go_enter Tryz.func156, Tryz.ntmps156
   go_wp2_with (first | (go_at_call 201; first | ((with_reducible refine CA.out.mono ?_); rintro e w' ⟨rfl, rfl⟩) | ((with_reducible refine CB.out.mono ?_); rintro e w' ⟨rfl, rfl⟩)) | (go_at_call 200; (with_reducible refine CM.out.mono ?_); rintro e w' ⟨rfl, rfl⟩))
   go_ret2; exact ⟨rfl, rfl⟩
end
section
open Cel
def E9 (l : LQ) (m : Aff) : Rat := l.a * (m.E * m.det⁻¹) + l.b * (-m.D * m.det⁻¹)
def Ey (l : LQ) (m : Aff) : Rat := l.a * (-m.B * m.det⁻¹) + l.b * (m.A * m.det⁻¹)
def Er (l : LQ) (m : Aff) : Rat := l.a * -(m.E * m.det⁻¹ * m.C + -m.B * m.det⁻¹ * m.F) + l.b * -(-m.D * m.det⁻¹ * m.C + m.A * m.det⁻¹ * m.F) + l.c
variable {l : LQ} {m : Aff}
theorem Mp (hd : m.det ≠ 0) (p : Rat × Rat) : E9 l m * (m.to p).1 + Ey l m * (m.to p).2 + Er l m = l.val p := by
 have h := Rat.mul_inv_cancel _ hd
 unfold E9 Ey Er
 generalize m.det⁻¹ = d at *
 generalize hX : m.to p = q
 have h1 : q.1 = m.A * p.1 + m.B * p.2 + m.C := by rw [← hX]; rfl
 have h2 : q.2 = m.D * p.1 + m.E * p.2 + m.F := by rw [← hX]; rfl
 have h3 : m.det = m.A * m.E - m.D * m.B := rfl
 have h4 : l.val p = l.a * p.1 + l.b * p.2 + l.c := rfl
 rw [h1, h2, h4]; rw [h3] at h; obtain ⟨A, B, C, D, E, F⟩ := m; obtain ⟨a, b, c⟩ := l; obtain ⟨x, y⟩ := p
 simp only at *
 clear hX h1 h2 h3 h4 hd
 have e1 : a * (E * d) + b * (-D * d) = d * (a * E - b * D) := by grind
 have e2 : a * (-B * d) + b * (A * d) = d * (b * A - a * B) := by grind
 grind
theorem Nb (hd : m.det ≠ 0) (hl : l.ok) : ¬ (E9 l m = 0 ∧ Ey l m = 0) := by
 rintro ⟨h1, h2⟩
 have h3 := Mp (l := l) hd (0, 0)
 have h4 := Mp (l := l) hd (1, 0)
 have h5 := Mp (l := l) hd (0, 1)
 rw [h1, h2] at h3 h4 h5
 have e3 : l.val (0, 0) = l.c := by show l.a * 0 + l.b * 0 + l.c = l.c; grind
 have e4 : l.val (1, 0) = l.a + l.c := by show l.a * 1 + l.b * 0 + l.c = l.a + l.c; grind
 have e5 : l.val (0, 1) = l.b + l.c := by show l.a * 0 + l.b * 1 + l.c = l.b + l.c; grind
 rw [e3] at h3; rw [e4] at h4; rw [e5] at h5
 have ha : l.a = 0 := by grind
 have hb : l.b = 0 := by grind
 unfold LQ.ok at hl
 rw [ha, hb] at hl
 grind
end
end Go.Proofs.YtpnpnlmlamfpmaaGreatDoor
