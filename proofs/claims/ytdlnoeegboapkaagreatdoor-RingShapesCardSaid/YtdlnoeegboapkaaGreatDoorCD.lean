/-
  Texts of this claim, joined: Int, Int2, Small, Tape, Sqrt, TapeW, NumOps, NumW.
-/
import Derived.Test.YtdlnoeegboapkaaGreatDoorCC
import Derived.Laws.Pointers
import Derived.Laws.BitsAllLaws
import Derived.Test.YtdlnoeegboapkaaGreatDoorCB
namespace Go.Proofs.YtdlnoeegboapkaaGreatDoor
open Go.RowKit
set_option maxHeartbeats 40000000
set_option maxRecDepth 100000
set_option synthInstance.maxHeartbeats 1000000
set_option synthInstance.maxSize 100000
section
def sgn (g : Bool) (n : Nat) : Int := if g then -(n : Int) else (n : Int)
def Zz (w : World) (g : Bool) (s : Value) (z : Int) (k : Nat) : Prop := g = decide (z < 0) ∧ Nn w s z.natAbs k
def Zi (w : World) (g : Bool) (s : Value) (z : Int) (k : Nat) : Prop := ∃ n, Rr w s n k ∧ z = sgn g n
theorem sgn_of (z : Int) : sgn (decide (z < 0)) z.natAbs = z := by
  unfold sgn
  by_cases h : z < 0
  · simp [h]; omega
  · simp [h]; omega
theorem sgn_abs (g : Bool) (n : Nat) : (sgn g n).natAbs = n := by cases g <;> simp [sgn]
theorem sgn_true (n : Nat) : sgn true n = -(n : Int) := rfl
theorem sgn_false (n : Nat) : sgn false n = (n : Int) := rfl
theorem Zz.zi {w : World} {g : Bool} {s : Value} {z : Int} {k : Nat} (h : Zz w g s z k) : Zi w g s z k := ⟨_, h.2.rr, by rw [h.1, sgn_of]⟩
theorem Zz.keep {w w' : World} {g : Bool} {s : Value} {z : Int} {k : Nat} (h : Zz w g s z k) (hb : Below w.heap.size w w') : Zz w' g s z k := ⟨h.1, h.2.keep hb⟩
theorem Zi.keep {w w' : World} {g : Bool} {s : Value} {z : Int} {k : Nat} (h : Zi w g s z k) (hb : Below w.heap.size w w') : Zi w' g s z k := by
  obtain ⟨n, h1, h2⟩ := h; exact ⟨n, h1.keep hb, h2⟩
theorem Zz.cast {w : World} {g : Bool} {s : Value} {z z' : Int} {k k' : Nat} (h : Zz w g s z k) (e : z = z') (hk : k ≤ k') : Zz w g s z' k' := by
  subst e; exact ⟨h.1, h.2.mono hk⟩
theorem dec_pos {n : Nat} : decide (0 < (nf n).length) = decide (n ≠ 0) := decide_eq_decide.2 nflen_pos
theorem Zz.mk' {w : World} {g : Bool} {a : Option Addr} {l c n k : Nat} (h : Nn w (.slice a l c) n k) : Zz w (g && decide (0 < l)) (.slice a l c) (sgn g n) k := by
  refine ⟨?_, by rw [sgn_abs]; exact h⟩
  rw [h.len, dec_pos]
  cases g
  · simp [sgn]
  · by_cases h0 : n = 0 <;> simp [sgn_true, h0]; omega
def isgn (x : Int) : Int := if x < 0 then -1 else if 0 < x then 1 else 0
theorem nbits_eq0 {m : Nat} (h : m = 0) : (((nbits m : Nat) : Int) == 0) = true := by subst h; rfl
theorem nbits_pos' {m : Nat} (h : m ≠ 0) : (((nbits m : Nat) : Int) == 0) = false := by
  rw [nbits_pos h, beq_eq_false_iff_ne]
  have h1 := nf_len_pos h
  have h2 := nf_last m h
  have h3 := (blen_ge (by have := dig_get (dig_nf m) ((nf m).length - 1); omega) h2).1
  omega
def icmp (x y : Int) : Int := if x < y then -1 else if y < x then 1 else 0
theorem isgn_cases (x : Int) : (x < 0 ∧ isgn x = -1) ∨ (x = 0 ∧ isgn x = 0) ∨ (0 < x ∧ isgn x = 1) := by
  unfold isgn
  rcases Int.lt_trichotomy x 0 with h | h | h
  · exact .inl ⟨h, by rw [if_pos h]⟩
  · exact .inr (.inl ⟨h, by rw [if_neg (by omega), if_neg (by omega)]⟩)
  · exact .inr (.inr ⟨h, by rw [if_neg (by omega), if_pos h]⟩)
theorem isgn_bd (x : Int) : -1 ≤ isgn x ∧ isgn x ≤ 1 := by
  rcases isgn_cases x with ⟨_, e⟩ | ⟨_, e⟩ | ⟨_, e⟩ <;> rw [e] <;> omega
theorem wrap_negneg {x : Int} (h1 : -9223372036854775808 ≤ x) (h0 : x < 0) : IntKind.u64.wrap (-IntKind.u64.wrap x) = ((x.natAbs : Nat) : Int) := by
  rw [IntKind.wrap_u64, IntKind.wrap_u64]; omega
theorem wrap_back {m : Nat} (h : m ≤ 9223372036854775808) : wrap64 (IntKind.u64.wrap (-(m : Int))) = -(m : Int) := by
  rw [IntKind.wrap_u64]; unfold wrap64; omega
def int64V (x : Int) : Value := .tuple #[.int .i64 (if -9223372036854775808 ≤ x ∧ x < 9223372036854775808 then x else 0), .bool (decide (-9223372036854775808 ≤ x ∧ x < 9223372036854775808))]
theorem int64V_in {x : Int} (h : -9223372036854775808 ≤ x ∧ x < 9223372036854775808) : int64V x = .tuple #[.int .i64 x, .bool true] := by
  unfold int64V; rw [if_pos h, decide_eq_true h]
theorem int64V_out {x : Int} (h : ¬ (-9223372036854775808 ≤ x ∧ x < 9223372036854775808)) : int64V x = .tuple #[.int .i64 0, .bool false] := by
  unfold int64V; rw [if_neg h, decide_eq_false h]
end
section
theorem Zz.zero (w : World) (k : Nat) : Zz w false (.slice none 0 0) 0 k := ⟨rfl, Nn.nil w k⟩
theorem sgn_eq0 {g : Bool} {n : Nat} : sgn g n = 0 ↔ n = 0 := by cases g <;> simp [sgn]
end
section
def IsRow (k : IntKind) (w : World) (a : Option Addr) (len cap : Nat) (zs : List Int) : Prop :=
  (a = none ∧ len = 0 ∧ cap = 0 ∧ zs = []) ∨
  ∃ x, a = some x ∧ len ≤ cap ∧ cap ≤ maxLen ∧ zs.length = cap ∧ (∀ i, i < zs.length → w.cell? (x.add i) = some (.int k (zs.getD i 0))) ∧ ∀ n ∈ zs, (Lit.int k n).wf = true
theorem wf_i64 {n : Int} (h : (Lit.int .i64 n).wf = true) : -9223372036854775808 ≤ n ∧ n < 9223372036854775808 := by
  have h2 : -9223372036854775808 ≤ n ∧ n ≤ 9223372036854775807 := by simpa [Lit.wf, IntKind.min, IntKind.max, IntKind.signed, IntKind.bits] using h
  omega
end
section
def TapeAt (w : World) (g : Nat) : Prop :=
  ∃ (a : Option Addr) (n c at_ : Nat) (zs : List Int), w.heap[g]? = some (.cells #[.slice a n c, .int .i64 (at_ : Int)] 108 (0, 0)) ∧ n ≤ 400 ∧ at_ ≤ n ∧ zs.length = n ∧
    (∀ z ∈ zs, -9223372036854775808 ≤ z ∧ z < 9223372036854775808) ∧
    (0 < n → ∃ b off, a = some ⟨b, off, none⟩ ∧ b < g ∧ ∀ i, i < n → w.cell? ⟨b, off + i, none⟩ = some (.int .i64 (zs.getD i 0)))
theorem heap_lt {w : World} {k : Nat} {o : Obj} (h : w.heap[k]? = some o) : k < w.heap.size := by
  rcases Nat.lt_or_ge k w.heap.size with hlt | hge
  · exact hlt
  · rw [Array.getElem?_eq_none hge] at h; cases h
theorem TapeAt.lt {w : World} {g : Nat} (h : TapeAt w g) : g < w.heap.size := by
  obtain ⟨a, n, c, at_, zs, hh, _⟩ := h; exact heap_lt hh
theorem TapeAt.same {w w' : World} {g : Nat} (h : TapeAt w g) (hs : ∀ k, k ≤ g → w'.heap[k]? = w.heap[k]?) : TapeAt w' g := by
  obtain ⟨a, n, c, at_, zs, hh, h1, h2, h3, h4, h5⟩ := h
  refine ⟨a, n, c, at_, zs, (hs g (Nat.le_refl _)).trans hh, h1, h2, h3, h4, fun h0 => ?_⟩
  obtain ⟨b, off, e, hb, hc⟩ := h5 h0
  exact ⟨b, off, e, hb, fun i hi => (World.cell?_of_block (hs b (by omega))).trans (hc i hi)⟩
theorem TapeAt.keep {w w' : World} {g : Nat} (h : TapeAt w g) (hb : Below w.heap.size w w') : TapeAt w' g :=
  h.same fun k hk => hb.block k (Nat.lt_of_le_of_lt hk h.lt)
theorem gb_refl (w : World) (row : Option Nat) : w.grownBy w row := ⟨rfl, rfl, rfl, Nat.le_refl _, fun _ _ _ => rfl⟩
theorem gb_trans {a b c : World} {row : Option Nat} (h : a.grownBy b row) (k : b.grownBy c row) : a.grownBy c row :=
  ⟨k.os.trans h.os, k.tape.trans h.tape, k.output.trans h.output, Nat.le_trans h.size k.size, fun i hi hr => (k.block i (Nat.lt_of_lt_of_le hi h.size) hr).trans (h.block i hi hr)⟩
theorem gb_below {a b c : World} {row : Option Nat} (h : a.grownBy b row) (k : Below b.heap.size b c) : a.grownBy c row :=
  ⟨k.os.trans h.os, k.tape.trans h.tape, k.output.trans h.output, Nat.le_trans h.size k.size, fun i hi hr => (k.block i (Nat.lt_of_lt_of_le hi h.size)).trans (h.block i hi hr)⟩
theorem gb_row {a b c : World} {row row' : Option Nat} (h : a.grownBy b row) (k : b.grownBy c row') (hr' : ∀ i, row' = some i → a.heap.size ≤ i) : a.grownBy c row :=
  ⟨k.os.trans h.os, k.tape.trans h.tape, k.output.trans h.output, Nat.le_trans h.size k.size, fun i hi hr => (k.block i (Nat.lt_of_lt_of_le hi h.size) (fun e => by have := hr' i e.symm; omega)).trans (h.block i hi hr)⟩
theorem below_gb {a b : World} {row : Option Nat} (h : Below a.heap.size a b) : a.grownBy b row :=
  ⟨h.os, h.tape, h.output, h.size, fun i hi _ => h.block i hi⟩
theorem blw_tp {w a b : World} {g : Nat} (h : Below w.heap.size w a) (hg : a.grownBy b (some g)) (hgw : w.heap.size ≤ g) : Below w.heap.size w b :=
  ⟨hg.os.trans h.os, hg.tape.trans h.tape, hg.output.trans h.output, Nat.le_trans h.size hg.size, fun i hi => (hg.block i (Nat.lt_of_lt_of_le hi h.size) (fun e => by injection e with e; omega)).trans (h.block i hi)⟩
theorem tmod_pos {z n : Int} (hn : 0 < n) : z.tmod n < n := Int.tmod_lt_of_pos z hn
theorem tmod_neg {z n : Int} (hn : 0 < n) : -n < z.tmod n := by
  rcases Int.lt_or_le z 0 with h0 | h0
  · have e : z.tmod n = -((-z).tmod n) := by rw [Int.neg_tmod, Int.neg_neg]
    have := Int.tmod_lt_of_pos (-z) hn
    omega
  · have := Int.tmod_nonneg n h0
    omega
theorem next_any (w : World) (g n : Nat) (hn : 0 < n) (hn2 : n ≤ 1000000) (ht : TapeAt w g) :
    Calls Tryz.prog 26 #[.pointer (some ⟨g, 0, none⟩), .int .i64 (n : Int)] w fun e w' => ∃ v : Nat, v < n ∧ e = .returned (.int .i64 (v : Int)) ∧ TapeAt w' g ∧ w.grownBy w' (some g) := by
  have ht' := ht
  obtain ⟨a, m, c, k, zs, hh, h1, h2, h3, h4, h5⟩ := ht
  have c0 : w.cell? ⟨g, 0, none⟩ = some (.slice a m c) := by rw [cell_of_row w g 0 _ _ _ hh]; rfl
  have c1 : w.cell? ⟨g, 1, none⟩ = some (.int .i64 (k : Int)) := by rw [cell_of_row w g 1 _ _ _ hh]; rfl
  have f1 : w.frozen? ⟨g, 1, none⟩ = false := frozen_of_row w g 1 _ _ hh
  have HT := Lib.hid ht'; have HH := Lib.hid hh; clear hh ht'; go_enter Tryz.func26, Tryz.ntmps26
  by_cases hk : m ≤ k
  · go_wp2
    go_quiet (fail)
    go_wp2; go_ret
    exact ⟨0, hn, rfl, HT.out.same fun _ _ => rfl, ⟨rfl, rfl, rfl, Nat.le_refl _, fun _ _ _ => rfl⟩⟩
  · obtain ⟨b, off, rfl, hb, hc⟩ := h5 (by omega)
    have ck := hc k (by omega)
    have hz := h4 (zs.getD k 0) (by
      rw [List.getD_eq_getElem?_getD, List.getElem?_eq_getElem (by omega)]; exact List.getElem_mem _)
    generalize zs.getD k 0 = z at *
    have b0 : (0 : Int) ≤ (k : Int) := (by omega); have b1 : (k : Int) < (m : Int) := (by omega); have hn3 : (0 : Int) < (n : Int) := (by omega)
    have t1 := @tmod_pos z (n : Int) hn3
    have t2 := @tmod_neg z (n : Int) hn3
    clear hc; go_wp2
    go_quiet (fail)
    go_wp2
    go_quiet (fail)
    go_wp2
    all_goals go_ret
    all_goals
      have hfin : ∀ nq : Nat, TapeAt ((w.drewN nq).setCell ⟨g, 1, none⟩ (.int .i64 ((k : Int) + 1))) g ∧ w.grownBy ((w.drewN nq).setCell ⟨g, 1, none⟩ (.int .i64 ((k : Int) + 1))) (some g) := fun nq => by
        have hh2 : (w.drewN nq).heap[g]? = some (.cells #[.slice (some ⟨b, off, none⟩) m c, .int .i64 (k : Int)] 108 (0, 0)) := HH.out
        refine ⟨⟨some ⟨b, off, none⟩, m, c, k + 1, zs, ?_, h1, by omega, h3, h4, fun h0 => ?_⟩, ?_⟩
        · rw [heap_setCell_same _ g 1 _ _ _ hh2]; rfl
        · obtain ⟨b', off', e, hb', hc⟩ := h5 h0
          refine ⟨b', off', e, hb', fun i hi => ?_⟩
          rw [World.cell?_setCell_other _ _ _ _ (fun e2 => by injection e2 with e3; omega)]; exact hc i hi
        · exact ⟨rfl, rfl, rfl, by simp, fun i hi hr => heap_setCell_other _ ⟨g, 1, none⟩ i _ (fun e => hr (by rw [e]))⟩
    · have hy : z.tmod (n : Int) < 0 := by assumption
      refine ⟨(z.tmod (n : Int) + (n : Int)).toNat, by omega, ?_, (hfin _).1, (hfin _).2⟩
      rw [Int.toNat_of_nonneg (by omega)]; rfl
    · have hy : 0 ≤ z.tmod (n : Int) := by assumption
      refine ⟨(z.tmod (n : Int)).toNat, by omega, ?_, (hfin _).1, (hfin _).2⟩
      rw [Int.toNat_of_nonneg (by omega)]; rfl
theorem new_any (a0 : Option Addr) (len0 cap0 : Nat) (z0 : List Int) (w : World) (w0 : IsRow .i64 w a0 len0 cap0 z0) :
    Calls Tryz.prog 12 #[.slice a0 len0 cap0] w fun e w' => e = .returned (.pointer (some ⟨w.heap.size, 0, none⟩)) ∧ TapeAt w' w.heap.size ∧ Below w.heap.size w w' := by
  have hc : len0 ≤ cap0 ∧ cap0 ≤ 9223372036854775807 := by
    rcases w0 with ⟨_, rfl, rfl, _⟩ | ⟨x, _, h1, h2, _⟩
    · omega
    · unfold maxLen at h2; omega
  have fin : ∀ n, n = min len0 400 → TapeAt (w.alloc (.cells #[.slice a0 n cap0, .int .i64 0] 108)) w.heap.size := by
    intro n hn
    refine ⟨a0, n, cap0, 0, z0.take n, heap_alloc_new w _, by omega, by omega, ?_, ?_, fun h0 => ?_⟩
    · rcases w0 with ⟨_, rfl, rfl, rfl⟩ | ⟨x, _, h1, h2, h3, _⟩
      · simp at hn; subst hn; rfl
      · rw [List.length_take]; omega
    · intro z hz
      rcases w0 with ⟨_, _, _, rfl⟩ | ⟨x, _, h1, h2, h3, h4, h5⟩
      · simp at hz
      · exact wf_i64 (h5 z (List.mem_of_mem_take hz))
    · rcases w0 with ⟨_, rfl, rfl, rfl⟩ | ⟨x, rfl, h1, h2, h3, h4, h5⟩
      · omega
      · obtain ⟨b, off, spot⟩ := x
        have hspot : spot = none := by simpa [Addr.add] using World.cell?_spot (h4 0 (by omega))
        subst hspot
        have hlt : b < w.heap.size := by
          have := lt_of_cell (h4 0 (by omega))
          simpa [Addr.add] using this
        refine ⟨b, off, rfl, hlt, fun i hi => ?_⟩
        rw [World.cell?_alloc_past _ _ _ hlt]
        have hc := h4 i (by omega)
        rw [addr_plain] at hc; rw [hc]
        congr 2
        rw [List.getD_eq_getElem?_getD, List.getD_eq_getElem?_getD, List.getElem?_take, if_pos hi]
  by_cases h4 : len0 ≤ 400
  · have hmin : min (len0 : Int) 400 = (len0 : Int) := by omega
    have hf := fin len0 (by omega)
    clear fin w0; go_enter Tryz.func12, Tryz.ntmps12; go_wp2; go_ret; exact ⟨rfl, hf, blw_one _ _⟩
  · have hmin : min (len0 : Int) 400 = 400 := by omega
    have hf := fin 400 (by omega)
    clear fin w0; go_enter Tryz.func12, Tryz.ntmps12; go_wp2; go_ret; exact ⟨rfl, hf, blw_one _ _⟩
end
section
theorem nbits_lt (m : Nat) : m < 2 ^ nbits m := by
  by_cases hm : m = 0
  · subst hm; exact Nat.pow_pos (by omega)
  · rw [nbits_pos hm]
    have hp := nf_len_pos hm
    have hd := dig_get (dig_nf m) ((nf m).length - 1)
    have hb := blen_lt (x := (nf m).getD ((nf m).length - 1) 0) (by omega)
    have h1 := val_take_drop (nf m) ((nf m).length - 1) (by omega)
    have h2 := val_lt ((nf m).take ((nf m).length - 1)) (dig_take (dig_nf m) _)
    rw [List.length_take, Nat.min_eq_left (by omega)] at h2; rw [val_drop_cons _ ((nf m).length - 1) (by omega), List.drop_eq_nil_of_le (by omega), val_nil, val_nf, Nat.mul_zero, Nat.add_zero] at h1
    generalize (nf m).getD ((nf m).length - 1) 0 = x at *
    generalize (nf m).length - 1 = k at *
    have h3 : (4294967296 : Nat) ^ k = 2 ^ (32 * k) := by rw [Nat.pow_mul]
    rw [Nat.pow_add, ← h3]
    have h4 : 4294967296 ^ k * (x + 1) ≤ 4294967296 ^ k * 2 ^ blen x := Nat.mul_le_mul_left _ hb
    rw [Nat.mul_add] at h4; omega
end
section
theorem Rd.tp {w w' : World} {g : Nat} {v : Value} {l : List Nat} (h : Rd w v l) (ht : TapeAt w g) (hg : w.grownBy w' (some g)) : Rd w' v l := by
  obtain ⟨a, cap, rfl, h1, h2, h3, h4⟩ := h
  refine ⟨a, cap, rfl, h1, h2, h3, fun h0 => ?_⟩
  obtain ⟨b, off, rfl, hc⟩ := h4 h0
  refine ⟨b, off, rfl, fun i hi => ?_⟩
  have hb : b ≠ g := by
    rintro rfl
    obtain ⟨a, n, c, at_, zs, hh, _⟩ := ht
    have := hc i hi
    rw [cell_of_row w b (off + i) _ _ _ hh] at this
    match off + i, this with
    | 0, this => simp at this
    | 1, this => simp at this
    | k + 2, this => simp at this
  have hlt := lt_of_cell (hc i hi)
  rw [World.cell?_of_block (hg.block b hlt (fun e => hb (Option.some.inj e)))]; exact hc i hi
theorem Nn.tp2 {W W2 : World} {g : Nat} {v : Value} {n k : Nat} (hg : W.grownBy W2 (some g)) (ht : TapeAt W g) (h : Nn W v n k) : Nn W2 v n k := by
  exact ⟨h.1.tp ht hg, h.2⟩
theorem Rr.tp2 {W W2 : World} {g : Nat} {v : Value} {n k : Nat} (hg : W.grownBy W2 (some g)) (ht : TapeAt W g) (h : Rr W v n k) : Rr W2 v n k := by
  obtain ⟨l, h1, h2⟩ := h; exact ⟨l, h1.tp ht hg, h2⟩
theorem TapeAt.al {W : World} {g : Nat} {o : Obj} (h : TapeAt W g) : TapeAt (W.alloc o) g := h.keep (blw_one _ _)
theorem TapeAt.dr {W : World} {g : Nat} (h : TapeAt W g) : TapeAt W.drew g := h.keep (blw_drew (Below.refl _ _))
theorem TapeAt.set2 {W : World} {g : Nat} {p : Addr} {x : Value} (hp : g < p.block) (h : TapeAt W g) : TapeAt (W.setCell p x) g :=
  h.same fun k hk => Below.heap_setCell _ _ _ _ (by omega)
theorem newW {a0 : Option Addr} {len0 cap0 : Nat} {z0 : List Int} {w : World} (w0 : IsRow .i64 w a0 len0 cap0 z0) :
    Calls Tryz.prog 12 #[.slice a0 len0 cap0] w fun e w' => e = .returned (.pointer (some ⟨w.heap.size, 0, none⟩)) ∧ TapeAt w' w.heap.size ∧ Below w.heap.size w w' := new_any a0 len0 cap0 z0 w w0
theorem nextW {w : World} {g : Nat} {n : Int} (ht : TapeAt w g) (h0 : 0 < n) (h1 : n ≤ 1000000) :
    Calls Tryz.prog 26 #[.pointer (some ⟨g, 0, none⟩), .int .i64 n] w fun e w' => ∃ v : Int, e = .returned (.int .i64 v) ∧ 0 ≤ v ∧ v < n ∧ TapeAt w' g ∧ w.grownBy w' (some g) := by
  obtain ⟨d, rfl⟩ := Int.eq_ofNat_of_zero_le (Int.le_of_lt h0)
  refine (next_any w g d (by omega) (by omega) ht).mono ?_
  rintro e w' ⟨v, hv, rfl, ht', hg⟩
  exact ⟨v, rfl, by omega, by omega, ht', hg⟩
end
section
theorem tb31 {x : Nat} (h : x < 4294967296) : x.testBit 31 = decide (2147483648 ≤ x) := by
  rw [Nat.testBit_eq_decide_div_mod_eq, decide_eq_decide]; omega
theorem shr31 {v : Nat} (h : v < 4294967296) : v / 2147483648 = if v.testBit 31 then 1 else 0 := by
  rw [tb31 h]
  by_cases hv : 2147483648 ≤ v
  · simp [hv]; omega
  · simp [hv]; omega
def subC (x y c : Nat) : Nat := if x < y + c then 1 else 0
theorem sub32_nat {x y c d : Nat} (hx : x < 4294967296) (hy : y < 4294967296) (hc : c ≤ 1) (hd : d = (x + 8589934592 - y - c) % 4294967296) :
    (((4294967295 ^^^ x) &&& y) ||| ((4294967295 ^^^ (x ^^^ y)) &&& d)) / 2147483648 = subC x y c := by
  have hd2 : d < 4294967296 := (by omega)
  have h1 : ((4294967295 ^^^ x) &&& y) < 2 ^ 32 := Nat.and_lt_two_pow _ (by omega)
  have h2 : ((4294967295 ^^^ (x ^^^ y)) &&& d) < 2 ^ 32 := Nat.and_lt_two_pow _ (by omega)
  have h3 := Nat.or_lt_two_pow h1 h2
  rw [shr31 (by simpa using h3)]
  rw [Nat.testBit_or, Nat.testBit_and, Nat.testBit_and, Nat.testBit_xor, Nat.testBit_xor, Nat.testBit_xor, tb31 hx, tb31 hy, tb31 hd2, show (4294967295 : Nat).testBit 31 = true by decide]
  unfold subC
  by_cases a : 2147483648 ≤ x <;> by_cases b : 2147483648 ≤ y <;> by_cases e : 2147483648 ≤ d <;> simp [a, b, e] <;> omega
theorem sub32_law {x y c : Nat} (hx : x < 4294967296) (hy : y < 4294967296) (hc : c ≤ 1) :
    bits .or .u32 (bits .and .u32 (bits .xor .u32 IntKind.u32.max (x : Int)) (y : Int)) (bits .and .u32 (bits .xor .u32 IntKind.u32.max (bits .xor .u32 (x : Int) (y : Int))) (((x : Int) - y - c) % 4294967296)) / 2147483648 = ((subC x y c : Nat) : Int) := by
  have hd : ((x : Int) - y - c) % 4294967296 = (((x + 8589934592 - y - c) % 4294967296 : Nat) : Int) := (by omega)
  have hm : IntKind.u32.max = ((4294967295 : Nat) : Int) := by decide
  have hxy : x ^^^ y < 2 ^ 32 := Nat.xor_lt_two_pow (by omega) (by omega)
  have e1 : 4294967295 ^^^ x < 2 ^ 32 := Nat.xor_lt_two_pow (by omega) (by omega)
  have e2 : 4294967295 ^^^ (x ^^^ y) < 2 ^ 32 := Nat.xor_lt_two_pow (by omega) hxy
  rw [hd, hm, u32_xor_nat _ _ (by omega) hx, u32_xor_nat _ _ hx hy, u32_xor_nat _ _ (by omega) (by simpa using hxy), u32_and_nat _ _ (by simpa using e1) hy, u32_and_nat _ _ (by simpa using e2) (by omega),
    u32_or_nat _ _ (by simpa using Nat.and_lt_two_pow _ (show y < 2 ^ 32 by omega)) (by simpa using Nat.and_lt_two_pow _ (show (x + 8589934592 - y - c) % 4294967296 < 2 ^ 32 by omega))]
  rw [← sub32_nat hx hy hc rfl]; omega
theorem add32I {w : World} {x y c : Int} (hx0 : 0 ≤ x) (hx : x < 4294967296) (hy0 : 0 ≤ y) (hy : y < 4294967296) (hc0 : 0 ≤ c) (hc : c ≤ 1) :
    Calls Tryz.prog 247 #[.int .u32 x, .int .u32 y, .int .u32 c] w fun e w' => e = .returned (.tuple #[.int .u32 ((x + y + c) % 4294967296), .int .u32 ((x + y + c) / 4294967296)]) ∧ w = w' := by
  go_enter Tryz.func247, Tryz.ntmps247; go_wp2; go_ret2; exact ⟨rfl, rfl⟩
theorem two_eq {k : IntKind} {a a' b b' : Int} (h1 : a = a') (h2 : b = b') : Ending.returned (.tuple #[.int k a, .int k b]) = Ending.returned (.tuple #[.int k a', .int k b']) := by rw [h1, h2]
def Sub32V (x y c : Nat) : Value := .tuple #[.int .u32 (((x + 8589934592 - y - c) % 4294967296 : Nat) : Int), .int .u32 ((subC x y c : Nat) : Int)]
theorem sub32W {w : World} {x y c : Nat} (hx : x < 4294967296) (hy : y < 4294967296) (hc : c ≤ 1) :
    Calls Tryz.prog 248 #[.int .u32 (x : Int), .int .u32 (y : Int), .int .u32 (c : Int)] w fun e w' => e = .returned (Sub32V x y c) ∧ w = w' := by
  have HL := Lib.hid (sub32_law hx hy hc); have HD := Lib.hid (show (((x : Int) - y) % 4294967296 - c) % 4294967296 = (((x + 8589934592 - y - c) % 4294967296 : Nat) : Int) by omega)
  have hs : IntKind.u32.signed = false := rfl
  go_enter Tryz.func248, Tryz.ntmps248; go_wp2; go_ret2
  refine ⟨?_, rfl⟩
  exact two_eq HD.out HL.out
theorem val_take_getD (l : List Nat) (k : Nat) : val (l.take (k + 1)) = val (l.take k) + 4294967296 ^ k * l.getD k 0 := by
  rcases Nat.lt_or_ge k l.length with h | h
  · exact val_take_snoc l k h
  · rw [List.take_of_length_le (by omega), List.take_of_length_le h, List.getD_eq_getElem?_getD, List.getElem?_eq_none h]; simp
theorem getD_out {l : List Nat} {k : Nat} (h : ¬ k < l.length) : l.getD k 0 = 0 := by
  rw [List.getD_eq_getElem?_getD, List.getElem?_eq_none (by omega)]; rfl
theorem sum_step {la lb L : List Nat} {c k x y N : Nat} (hL : L.length = N + 1) (hz : ∀ j, k ≤ j → L.getD j 0 = 0) (hdL : Dig L) (hc : c ≤ 1) (hk : k < N) (hda : Dig la) (hdb : Dig lb)
    (hx : la.getD k 0 = x) (hy : lb.getD k 0 = y) (h : val L + 4294967296 ^ k * c = val (la.take k) + val (lb.take k)) :
    Dig (L.set k ((x + y + c) % 4294967296)) ∧ (x + y + c) / 4294967296 ≤ 1 ∧ (∀ j, k + 1 ≤ j → (L.set k ((x + y + c) % 4294967296)).getD j 0 = 0) ∧
      val (L.set k ((x + y + c) % 4294967296)) + 4294967296 ^ (k + 1) * ((x + y + c) / 4294967296) = val (la.take (k + 1)) + val (lb.take (k + 1)) := by
  have h1 := dig_get hda k
  have h1' := dig_get hdb k
  rw [hx] at h1; rw [hy] at h1'
  have h2 := carry_round (L := L) (j := k) (c := c) (s := x + y) (t := x + y + c) (by omega) (by rw [hz k (Nat.le_refl _)]; omega)
  refine ⟨dig_set hdL k (by omega), by omega, fun j hj => ?_, ?_⟩
  · rw [set_getD_ne _ _ _ _ (by omega)]; exact hz j (by omega)
  · rw [h2, val_take_getD la, val_take_getD lb, hx, hy, Nat.mul_add, h]; omega
theorem sum_end {la lb L : List Nat} {c N : Nat} (hL : L.length = N + 1) (hz : ∀ j, N ≤ j → L.getD j 0 = 0) (hla : la.length ≤ N) (hlb : lb.length ≤ N)
    (h : val L + 4294967296 ^ N * c = val (la.take N) + val (lb.take N)) : val (L.set N c) = val la + val lb := by
  rw [last_carry (by omega) (hz _ (Nat.le_refl _)), h, List.take_of_length_le hla, List.take_of_length_le hlb]
theorem sum_any (w : World) (u v : Value) (la lb : List Nat) (hu : Rd w u la) (hv : Rd w v lb) (hla : la.length ≤ 1000000) (hlb : lb.length ≤ 1000000) :
    Calls Tryz.prog 180 #[u, v] w fun e w' => ∃ z, e = .returned z ∧ Own w' w.heap.size z (nf (val la + val lb)) ∧ Below w.heap.size w w' := by
  obtain ⟨a, capa, rfl, _, _, hda, hra⟩ := hu; obtain ⟨b, capb, rfl, _, _, hdb, hrb⟩ := hv; obtain ⟨N, hN⟩ : ∃ N, N = max la.length lb.length := ⟨_, rfl⟩; have hNa : la.length ≤ N := (by omega); have hNb : lb.length ≤ N := (by omega); have hNN : N < la.length ∨ N = la.length ∨ N = lb.length := (by omega); have hN1 : N ≤ 1000000 := (by omega); have hM : max (la.length : Int) (lb.length : Int) = (N : Int) := (by omega)
  have HN := Lib.hid (show ∀ k, k < N → k < la.length ∨ k < lb.length by intro k; omega)
  clear hN hNN; go_enter Tryz.func180, Tryz.ntmps180
  go_wp2_with (at_make; go_loud (refine make_u32 _ rfl (.tmp 17) (.tmp 17) 24 rfl Tryz.underlying24 _ _ (N + 1) rfl rfl (by omega) (by omega) (by omega) ?_); intro w1 R0 B0; clear hM)
  go_loopw [7, 8] (fun c i wr => ∃ (k cn : Nat) (L : List Nat), k ≤ N ∧ i = .int .i64 k ∧ c = .int .u32 cn ∧ cn ≤ 1 ∧ Row wr w.heap.size w.heap.size (N + 1) L ∧ Hid (L.length = N + 1) ∧ Below w.heap.size w wr ∧
        Hid (∀ j, k ≤ j → L.getD j 0 = 0) ∧ Hid (val L + 4294967296 ^ k * cn = val (la.take k) + val (lb.take k))) (fun _ i _ => N - (intOf i).toNat)
  case atStart => exact ⟨0, 0, _, Nat.zero_le _, rfl, rfl, by omega, R0, by show _ = _; simp, B0, fun j _ => getD_replicate _ _, by show _ = _; simp [val_replicate, val_nil]⟩
  case round =>
    obtain ⟨k, cn, L, hk, rfl, rfl, hcn, hR, hL, hB, hz, hv⟩ := hrel
    have hRc := hR.cap
    have hRl := hR.lt
    by_cases hlt : k < N
    · have cR := hR.cell (j := k) (by rw [hL.out]; omega)
      have fR := hR.free k
      generalize L.getD k 0 = z at *
      by_cases hka : k < la.length
      · obtain ⟨ba, offa, rfl, cA⟩ := hra.at hB hka
        have hx := dig_get hda k
        have hst := fun x y => @sum_step la lb L cn k x y N hL.out hz.out hR.dig hcn hlt hda hdb
        generalize la.getD k 0 = x at *
        by_cases hkb : k < lb.length
        · obtain ⟨bb, offb, rfl, cB⟩ := hrb.at hB hkb
          have hy := dig_get hdb k
          generalize lb.getD k 0 = y at *
          have HST := Lib.hid (hst x y rfl rfl hv.out); have HE1 := Lib.hid (show ((x : Int) + (y : Int) + (cn : Int)) % 4294967296 = (((x + y + cn) % 4294967296 : Nat) : Int) by omega); clear hst hra hrb
          go_wp2_with (go_at_call 247; refine (add32I (by omega) (by omega) (by omega) (by omega) (by omega) (by omega)).mono ?_; rintro e w' ⟨rfl, rfl⟩)
          go_roundw
          case rel =>
            obtain ⟨s1, s2, s3, s4⟩ := HST.out; rw [HE1.out]
            exact ⟨k + 1, (x + y + cn) / 4294967296, L.set k ((x + y + cn) % 4294967296), by omega, by go_num, by go_num, s2, hR.set k (by omega), by show _ = _; rw [List.length_set]; exact hL.out, hB.setCell (Nat.le_refl _) _, s3, s4⟩
          case measure => simp [intOf]; omega
        · have HST := Lib.hid (hst x 0 rfl (getD_out hkb) hv.out); have HE1 := Lib.hid (show ((x : Int) + (cn : Int)) % 4294967296 = (((x + 0 + cn) % 4294967296 : Nat) : Int) by omega); clear hst hra hrb
          go_wp2_with (go_at_call 247; refine (add32I (by omega) (by omega) (by omega) (by omega) (by omega) (by omega)).mono ?_; rintro e w' ⟨rfl, rfl⟩)
          go_roundw
          case rel =>
            obtain ⟨s1, s2, s3, s4⟩ := HST.out; rw [HE1.out]
            exact ⟨k + 1, (x + 0 + cn) / 4294967296, L.set k ((x + 0 + cn) % 4294967296), by omega, by go_num, by go_num, s2, hR.set k (by omega), by show _ = _; rw [List.length_set]; exact hL.out, hB.setCell (Nat.le_refl _) _, s3, s4⟩
          case measure => simp [intOf]; omega
      · have hkb : k < lb.length := by rcases HN.out k hlt with h | h <;> omega
        obtain ⟨bb, offb, rfl, cB⟩ := hrb.at hB hkb
        have hy := dig_get hdb k
        have hst := fun y => @sum_step la lb L cn k 0 y N hL.out hz.out hR.dig hcn hlt hda hdb (getD_out hka)
        generalize lb.getD k 0 = y at *
        have HST := Lib.hid (hst y rfl hv.out); have HE1 := Lib.hid (show ((y : Int) + (cn : Int)) % 4294967296 = (((0 + y + cn) % 4294967296 : Nat) : Int) by omega); clear hst hra hrb
        go_wp2_with (go_at_call 247; refine (add32I (by omega) (by omega) (by omega) (by omega) (by omega) (by omega)).mono ?_; rintro e w' ⟨rfl, rfl⟩)
        go_roundw
        case rel =>
          obtain ⟨s1, s2, s3, s4⟩ := HST.out; rw [HE1.out]
          exact ⟨k + 1, (0 + y + cn) / 4294967296, L.set k ((0 + y + cn) % 4294967296), by omega, by go_num, by go_num, s2, hR.set k (by omega), by show _ = _; rw [List.length_set]; exact hL.out, hB.setCell (Nat.le_refl _) _, s3, s4⟩
        case measure => simp [intOf]; omega
    · obtain rfl : k = N := by omega
      have cR := hR.cell (j := k) (by rw [hL.out]; omega)
      have fR := hR.free k
      generalize L.getD k 0 = z at *
      have HV := Lib.hid (sum_end hL.out hz.out hNa hNb hv.out)
      have HR2 := hR.set k (d := cn) (by omega)
      have HLL := Lib.hid (show (L.set k cn).length = k + 1 by rw [List.length_set]; exact hL.out)
      clear hra hrb
      go_wp2_with (go_at_call 127; refine (numTrim_own _ _ _ _ (show Own _ _ _ _ from by have := HR2; unfold Row at this; rw [HLL.out] at this; exact this)).mono ?_; rintro e w2 ⟨v, rfl, ho, rfl⟩)
      go_ret; rw [HV.out] at ho; exact ⟨v, rfl, ho, hB.setCell (Nat.le_refl _) _⟩
theorem sub32_ge {w : World} {x y c : Int} (hx0 : 0 ≤ x) (hx : x < 4294967296) (hy0 : 0 ≤ y) (hy : y < 4294967296) (hc0 : 0 ≤ c) (hc : c ≤ 1) (h : y + c ≤ x) :
    Calls Tryz.prog 248 #[.int .u32 x, .int .u32 y, .int .u32 c] w fun e w' => e = .returned (.tuple #[.int .u32 (x - y - c), .int .u32 0]) ∧ w = w' := by
  obtain ⟨x, rfl⟩ := Int.eq_ofNat_of_zero_le hx0; obtain ⟨y, rfl⟩ := Int.eq_ofNat_of_zero_le hy0; obtain ⟨c, rfl⟩ := Int.eq_ofNat_of_zero_le hc0
  refine (sub32W (by omega) (by omega) (by omega)).mono ?_
  rintro e w' ⟨rfl, rfl⟩
  refine ⟨two_eq (by omega) ?_, rfl⟩
  unfold subC; rw [if_neg (by omega)]; rfl
theorem sub32_lt {w : World} {x y c : Int} (hx0 : 0 ≤ x) (hx : x < 4294967296) (hy0 : 0 ≤ y) (hy : y < 4294967296) (hc0 : 0 ≤ c) (hc : c ≤ 1) (h : x < y + c) :
    Calls Tryz.prog 248 #[.int .u32 x, .int .u32 y, .int .u32 c] w fun e w' => e = .returned (.tuple #[.int .u32 (x - y - c + 4294967296), .int .u32 1]) ∧ w = w' := by
  obtain ⟨x, rfl⟩ := Int.eq_ofNat_of_zero_le hx0; obtain ⟨y, rfl⟩ := Int.eq_ofNat_of_zero_le hy0; obtain ⟨c, rfl⟩ := Int.eq_ofNat_of_zero_le hc0
  refine (sub32W (by omega) (by omega) (by omega)).mono ?_
  rintro e w' ⟨rfl, rfl⟩
  refine ⟨two_eq (by omega) ?_, rfl⟩
  unfold subC; rw [if_pos (by omega)]; rfl
theorem numLess_any (w : World) (u v : Value) (la lb : List Nat) (hu : Rd w u la) (hv : Rd w v lb) (hlen : lb.length ≤ la.length) (hle : val lb ≤ val la) (hla : la.length ≤ 1000000) :
    Calls Tryz.prog 181 #[u, v] w fun e w' => ∃ z, e = .returned z ∧ Own w' w.heap.size z (nf (val la - val lb)) ∧ Below w.heap.size w w' := by
  obtain ⟨a, capa, rfl, _, _, hda, hra⟩ := hu; obtain ⟨b, capb, rfl, _, _, hdb, hrb⟩ := hv; have HLE := Lib.hid hle; clear hle; go_enter Tryz.func181, Tryz.ntmps181
  go_wp2_with (at_make; go_loud (refine make_u32 _ rfl (.tmp 10) (.tmp 10) 24 rfl Tryz.underlying24 _ _ la.length rfl rfl (by omega) (by omega) (by omega) ?_); intro w1 R0 B0)
  go_loopw [6, 14] (fun c i wr => ∃ (k cn : Nat) (L : List Nat), k ≤ la.length ∧ i = .int .i64 k ∧ c = .int .u32 cn ∧ cn ≤ 1 ∧ Row wr w.heap.size w.heap.size la.length L ∧ Hid (L.length = la.length) ∧ Below w.heap.size w wr ∧
      Hid (∀ j, k ≤ j → L.getD j 0 = 0) ∧ Hid (val L + val (lb.take k) = val (la.take k) + 4294967296 ^ k * cn)) (fun _ i _ => la.length - (intOf i).toNat)
  case atStart => exact ⟨0, 0, _, Nat.zero_le _, rfl, rfl, by omega, R0, by show _ = _; simp, B0, fun j _ => getD_replicate _ _, by show _ = _; simp [val_replicate, val_nil]⟩
  case round =>
    obtain ⟨k, cn, L, hk, rfl, rfl, hcn, hR, hL, hB, hz, hv⟩ := hrel
    have hRc := hR.cap
    have hRl := hR.lt
    by_cases hlt : k < la.length
    · obtain ⟨ba, offa, rfl, cA⟩ := hra.at hB hlt
      have hst := fun x y d c' => @sub_step la lb L cn k d c' x y hL.out hz.out hlt
      have cR := hR.cell (j := k) (by rw [hL.out]; omega)
      have fR := hR.free k
      have hx := dig_get hda k
      generalize hgx : la.getD k 0 = x at *
      have hst := fun y d c' => hst x y d c' rfl hv.out
      clear hgx
      generalize L.getD k 0 = z at *
      by_cases hltb : k < lb.length
      · obtain ⟨bb, offb, rfl, cB⟩ := hrb.at hB hltb
        have hy := dig_get hdb k
        generalize hgy : lb.getD k 0 = y at *
        have hst := fun d c' => hst y d c' (.inl ⟨hltb, rfl⟩)
        clear hgy
        by_cases hge : y + cn ≤ x
        · have HST := Lib.hid (hst (x - y - cn) 0 (by omega)); clear hst hra hrb
          go_wp2_with (go_at_call 248; refine (sub32_ge (by omega) (by omega) (by omega) (by omega) (by omega) (by omega) (by omega)).mono ?_; rintro e w' ⟨rfl, rfl⟩)
          go_roundw
          case rel =>
            obtain ⟨s1, s2⟩ := HST.out
            rw [show ((x : Int) - (y : Int) - (cn : Int)) = ((x - y - cn : Nat) : Int) by omega]
            exact ⟨k + 1, 0, _, by omega, by go_num, by go_num, by omega, hR.set k (by omega), by show _ = _; rw [List.length_set]; exact hL.out, hB.setCell (Nat.le_refl _) _, s1, s2⟩
          case measure => simp [intOf]; omega
        · have HST := Lib.hid (hst (x + 4294967296 - y - cn) 1 (by omega)); clear hst hra hrb
          go_wp2_with (go_at_call 248; refine (sub32_lt (by omega) (by omega) (by omega) (by omega) (by omega) (by omega) (by omega)).mono ?_; rintro e w' ⟨rfl, rfl⟩)
          go_roundw
          case rel =>
            obtain ⟨s1, s2⟩ := HST.out
            rw [show ((x : Int) - (y : Int) - (cn : Int) + 4294967296) = ((x + 4294967296 - y - cn : Nat) : Int) by omega]
            exact ⟨k + 1, 1, _, by omega, by go_num, by go_num, by omega, hR.set k (by omega), by show _ = _; rw [List.length_set]; exact hL.out, hB.setCell (Nat.le_refl _) _, s1, s2⟩
          case measure => simp [intOf]; omega
      · have hst := fun d c' => hst 0 d c' (.inr ⟨by omega, rfl⟩)
        by_cases hge : cn ≤ x
        · have HST := Lib.hid (hst (x - 0 - cn) 0 (by omega)); clear hst hra hrb
          go_wp2_with (go_at_call 248; refine (sub32_ge (by omega) (by omega) (by omega) (by omega) (by omega) (by omega) (by omega)).mono ?_; rintro e w' ⟨rfl, rfl⟩)
          go_roundw
          case rel =>
            obtain ⟨s1, s2⟩ := HST.out
            first | rw [show ((x : Int) - (cn : Int)) = ((x - 0 - cn : Nat) : Int) by omega] | rw [show ((x : Int) - 0 - (cn : Int)) = ((x - 0 - cn : Nat) : Int) by omega]
            exact ⟨k + 1, 0, _, by omega, by go_num, by go_num, by omega, hR.set k (by omega), by show _ = _; rw [List.length_set]; exact hL.out, hB.setCell (Nat.le_refl _) _, s1, s2⟩
          case measure => simp [intOf]; omega
        · have HST := Lib.hid (hst (x + 4294967296 - 0 - cn) 1 (by omega)); clear hst hra hrb
          go_wp2_with (go_at_call 248; refine (sub32_lt (by omega) (by omega) (by omega) (by omega) (by omega) (by omega) (by omega)).mono ?_; rintro e w' ⟨rfl, rfl⟩)
          go_roundw
          case rel =>
            obtain ⟨s1, s2⟩ := HST.out
            first | rw [show ((x : Int) - (cn : Int) + 4294967296) = ((x + 4294967296 - 0 - cn : Nat) : Int) by omega] | rw [show ((x : Int) - 0 - (cn : Int) + 4294967296) = ((x + 4294967296 - 0 - cn : Nat) : Int) by omega]
            exact ⟨k + 1, 1, _, by omega, by go_num, by go_num, by omega, hR.set k (by omega), by show _ = _; rw [List.length_set]; exact hL.out, hB.setCell (Nat.le_refl _) _, s1, s2⟩
          case measure => simp [intOf]; omega
    · have hkl : k = la.length := by omega
      subst hkl; have HV := Lib.hid (sub_end hR.dig hL.out hlen HLE.out hv.out)
      have HR2 := hR
      clear hra hrb
      go_wp2_with (go_at_call 127; refine (numTrim_own _ _ _ _ (show Own _ _ _ _ from by have := HR2; unfold Row at this; rw [hL.out] at this; exact this)).mono ?_; rintro e w2 ⟨v, rfl, ho, rfl⟩)
      go_ret; rw [HV.out] at ho; exact ⟨v, rfl, ho, hB⟩
theorem product_any (w : World) (u v : Value) (xs ys : List Nat) (hu : Rd w u xs) (hv : Rd w v ys) (hx1 : xs.length ≤ 1000000) (hy1 : ys.length ≤ 1000000) :
    Calls Tryz.prog 62 #[u, v] w fun e w' => ∃ z, e = .returned z ∧ Own w' w.heap.size z (nf (val xs * val ys)) ∧ Below w.heap.size w w' := by
  obtain ⟨a, capa, rfl, _, _, hda, hra⟩ := hu; obtain ⟨b, capb, rfl, _, _, hdb, hrb⟩ := hv
  by_cases h11 : xs.length = 1 ∧ ys.length = 1
  · obtain ⟨h1, h2⟩ := h11; obtain ⟨x, rfl⟩ : ∃ x, xs = [x] := List.length_eq_one_iff.1 h1; obtain ⟨y, rfl⟩ : ∃ y, ys = [y] := List.length_eq_one_iff.1 h2; clear h1 h2 hx1 hy1; obtain ⟨ba, offa, rfl, cA⟩ := hra (by simp); obtain ⟨bb, offb, rfl, cB⟩ := hrb (by simp)
    have cA := cA 0 (by simp)
    have cB := cB 0 (by simp)
    have hx := hda x (by simp)
    have hy := hdb y (by simp)
    have hm := mul_int hx hy
    have HW := Lib.hid (show IntKind.u64.wrap (IntKind.u64.wrap (x : Int) * IntKind.u64.wrap (y : Int)) = ((x * y : Nat) : Int) by
      rw [show IntKind.u64.wrap (x : Int) = x by rw [IntKind.wrap_u64]; omega, show IntKind.u64.wrap (y : Int) = y by rw [IntKind.wrap_u64]; omega, IntKind.wrap_u64, Int.natCast_mul, Int.emod_eq_of_lt hm.1 (by omega)])
    have HL := Lib.hid (show x * y < 18446744073709551616 by have := hm.2; rw [← Int.natCast_mul] at this; omega)
    have hvx : val [x] * val [y] = x * y := by simp [val_cons, val_nil]
    rw [hvx]; clear hra hrb hda hdb hvx; simp only [List.getD_eq_getElem?_getD, List.getElem?_cons_zero, Option.getD_some, Nat.add_zero, List.length_cons, List.length_nil, Nat.zero_add] at cA cB ⊢; go_enter Tryz.func62, Tryz.ntmps62; go_wp2_with fail
    go_region_held3 (fun w' => w'.cell? ⟨ba, offa, none⟩ = some (.int .u32 (x : Int)) ∧ w'.cell? ⟨bb, offb, none⟩ = some (.int .u32 (y : Int)))
      (first | go_keep | (go_split_ands; exact ⟨keepc (by assumption) (by assumption), keepc (by assumption) (by assumption)⟩))
      (first
      | (go_at_call 126; rw [HW.out]; refine (word_any _ (x * y) HL.out).mono ?_; rintro e w' ⟨z, rfl, hz, hb⟩))
    go_wp2; go_ret; exact ⟨_, rfl, hz, blw_trans (blw_drew (Below.refl _ _)) hb⟩
  · have hb : ((xs.length : Int) == 1) = false ∨ ((xs.length : Int) == 1) = true ∧ ((ys.length : Int) == 1) = false := by
      simp only [beq_eq_false_iff_ne, beq_iff_eq]; omega
    clear h11; go_enter Tryz.func62, Tryz.ntmps62
    rcases hb with hb1 | ⟨hb1, hb2⟩
    all_goals
      go_wp2_with (at_make; go_loud (refine make_u32 _ rfl (.tmp 34) (.tmp 34) 24 rfl Tryz.underlying24 _ _ (xs.length + ys.length) rfl rfl (by omega) (by omega) (by omega) ?_); intro w1 R0 B0)
      go_loopw [38] (fun i wr => ∃ (k : Nat) (L : List Nat), k ≤ xs.length ∧ i = .int .i64 k ∧ Row wr w.heap.size w.heap.size (xs.length + ys.length) L ∧ Hid (L.length = xs.length + ys.length) ∧ Below w.heap.size w wr ∧
          Hid (∀ j, k + ys.length ≤ j → L.getD j 0 = 0) ∧ Hid (val L = val (xs.take k) * val ys)) (fun i _ => xs.length - (intOf i).toNat)
      case atStart => exact ⟨0, _, Nat.zero_le _, rfl, R0, by show _ = _; simp, B0, fun j _ => getD_replicate _ _, by show _ = _; simp [val_replicate, val_nil]⟩
      case round =>
        obtain ⟨i, L0, hi, rfl, hR0, hL0, hB0, hz0, hv0⟩ := hrel; obtain ⟨wo, hwo⟩ : ∃ wo : World, wo = wr := ⟨_, rfl⟩; subst hwo
        by_cases hlt : i < xs.length
        · obtain ⟨ba, offa, rfl, cA⟩ := hra.at hB0 hlt
          have hx := dig_get hda i
          have HX := Lib.hid (val_take_snoc xs i hlt)
          generalize xs.getD i 0 = x at *
          have hrow0 := hR0.lt
          go_wp2
          go_loopw [8, 45] (fun c i' wr => ∃ (k cn : Nat) (L : List Nat), k ≤ ys.length ∧ i' = .int .i64 k ∧ c = .int .u64 cn ∧ cn < 4294967296 ∧ Row wr w.heap.size w.heap.size (xs.length + ys.length) L ∧ Hid (L.length = xs.length + ys.length) ∧ Below w.heap.size w wr ∧
              Hid (∀ j, i + ys.length ≤ j → L.getD j 0 = 0) ∧ Hid (val L + 4294967296 ^ (i + k) * cn = val (xs.take i) * val ys + 4294967296 ^ i * (x * val (ys.take k)))) (fun _ i' _ => ys.length - (intOf i').toNat)
          case atStart => exact ⟨0, 0, L0, Nat.zero_le _, rfl, rfl, by omega, hR0, hL0, hB0, hz0, by show _ = _; rw [hv0.out]; simp [val_nil]⟩
          case round =>
            obtain ⟨k, cn, L, hk, rfl, rfl, hcn, hR, hL, hB, hz, hv⟩ := hrel
            have hRl := hR.lt
            have hRc := hR.cap
            by_cases hltb : k < ys.length
            · obtain ⟨bb, offb, rfl, cB⟩ := hrb.at hB hltb
              have hy := dig_get hdb k
              have hst := fun y => @mul_step L (val (xs.take i) * val ys) i k cn x y (val (ys.take k)) ys.length (by rw [hL.out]; omega) hltb hR.dig hx
              have hvt := val_take_snoc ys k hltb
              generalize ys.getD k 0 = y at *
              have cR := hR.cell (j := i + k) (by rw [hL.out]; omega)
              have fR := hR.free (i + k)
              have hdz := dig_get hR.dig (i + k)
              have hst := hst y hy hcn hz.out (L.getD (i + k) 0) rfl hv.out
              generalize L.getD (i + k) 0 = z at *
              rw [← hvt] at hst; have HST := Lib.hid hst
              have hm := mul_int hx hy
              clear hst hvt hra hrb; go_wp2
              go_roundw
              case rel =>
                obtain ⟨s1, s2, s3, s4⟩ := HST.out
                have e0 : (x : Int) * (y : Int) + (z : Int) + (cn : Int) = ((cn + x * y + z : Nat) : Int) := by
                  rw [Int.natCast_add, Int.natCast_add, Int.natCast_mul]; omega
                rw [e0]; have e1 : ((cn + x * y + z : Nat) : Int) % 4294967296 = (((cn + x * y + z) % 4294967296 : Nat) : Int) := (by omega); rw [e1]
                exact ⟨k + 1, (cn + x * y + z) / 4294967296, _, by omega, by go_num, by go_num, s2, hR.set (i + k) (by omega), by show _ = _; rw [List.length_set]; exact hL.out, hB.setCell (Nat.le_refl _) _, s3, s4⟩
              case measure => simp [intOf]; omega
            · have hkl : k = ys.length := by omega
              subst hkl
              have cR := hR.cell (j := i + ys.length) (by rw [hL.out]; omega)
              have fR := hR.free (i + ys.length)
              generalize L.getD (i + ys.length) 0 = z at *
              have hv2 := hv.out
              rw [List.take_length] at hv2
              have hst := mul_last (by rw [hL.out]; omega) hz.out hv2
              rw [← HX.out] at hst; have HST := Lib.hid hst; clear hst hv2 hra hrb; go_wp2
              go_roundw
              case rel =>
                obtain ⟨s1, s2⟩ := HST.out
                exact ⟨i + 1, _, by omega, by go_num, hR.set (i + ys.length) hcn, by show _ = _; rw [List.length_set]; exact hL.out, hB.setCell (Nat.le_refl _) _, s1, s2⟩
              case measure => simp [intOf]; omega
        · have hil : i = xs.length := by omega
          subst hil
          have hv2 := hv0.out
          rw [List.take_length] at hv2; have HV := Lib.hid hv2; clear hv2 hra hrb
          go_wp2_with (go_at_call 127; refine (numTrim_own _ _ _ _ (show Own _ _ _ _ from by have := hR0; unfold Row at this; rw [hL0.out] at this; exact this)).mono ?_; rintro e w2 ⟨v, rfl, ho, rfl⟩)
          go_ret; rw [HV.out] at ho; exact ⟨v, rfl, ho, hB0⟩
end
section
section
variable {w : World} {u v : Value} {m n km kn : Nat}
theorem numSumW (hu : Nn w u m km) (hv : Nn w v n kn) (hk : km ≤ 900000) (hk2 : kn ≤ 900000) : Calls Tryz.prog 180 #[u, v] w (RetN w (m + n) (max km kn + 1)) := by
  obtain ⟨h1, l1⟩ := hu; obtain ⟨h2, l2⟩ := hv
  have hc := sum_any _ _ _ _ _ h1 h2 (by omega) (by omega)
  rw [val_nf, val_nf] at hc
  refine hc.mono ?_
  rintro e w' ⟨z, rfl, hz, hb⟩
  exact .mk (.of_own hz (len_addM l1 l2)) hb
theorem numLessW (hu : Nn w u m km) (hv : Nn w v n kn) (hk : km ≤ 900000) (h : n ≤ m) : Calls Tryz.prog 181 #[u, v] w (RetN w (m - n) km) := by
  obtain ⟨h1, l1⟩ := hu; obtain ⟨h2, l2⟩ := hv
  have hc := numLess_any _ _ _ _ _ h1 h2 (nf_len_mono h) (by rw [val_nf, val_nf]; exact h) (by omega)
  rw [val_nf, val_nf] at hc
  refine hc.mono ?_
  rintro e w' ⟨z, rfl, hz, hb⟩
  exact .mk (.of_own hz (len_le (Nat.sub_le _ _) l1)) hb
theorem numProductW (hu : Nn w u m km) (hv : Nn w v n kn) (hk : km ≤ 900000) (hk2 : kn ≤ 900000) : Calls Tryz.prog 62 #[u, v] w (RetN w (m * n) (km + kn)) := by
  obtain ⟨h1, l1⟩ := hu; obtain ⟨h2, l2⟩ := hv
  have hc := product_any _ _ _ _ _ h1 h2 (by omega) (by omega)
  rw [val_nf, val_nf] at hc
  refine hc.mono ?_
  rintro e w' ⟨z, rfl, hz, hb⟩
  exact .mk (.of_own hz (len_mul l1 l2 (Nat.le_refl _))) hb
theorem numWordW {x : Nat} (hx : x < 18446744073709551616) : Calls Tryz.prog 126 #[.int .u64 (x : Int)] w (RetN w x 2) := by
  refine (word_any _ x hx).mono ?_
  rintro e w' ⟨z, rfl, hz, hb⟩
  exact .mk (.of_own hz (nf_len_le (by omega))) hb
theorem numWordI {x : Int} (h0 : 0 ≤ x) (h : x < 18446744073709551616) : Calls Tryz.prog 126 #[.int .u64 x] w (RetN w x.natAbs 2) := by
  obtain ⟨n, rfl⟩ := Int.eq_ofNat_of_zero_le h0; exact numWordW (by omega)
theorem len_shl {m k c : Nat} (h : (nf m).length ≤ c) : (nf (m * 2 ^ k)).length ≤ c + (k / 32 + 1) := by
  refine len_mul h (nf_len_le ?_) (Nat.le_refl _)
  rw [show (4294967296 : Nat) = 2 ^ 32 by decide, ← Nat.pow_mul]
  exact Nat.pow_lt_pow_right (by omega) (by omega)
theorem numOneW : Calls Tryz.prog 73 #[] w (RetN w 1 1) := by
  go_enter Tryz.func73, Tryz.ntmps73; go_wp2; go_ret; exact ⟨_, _, _, rfl, Nn.lit1, blw_one _ _⟩
end
theorem u64_pair {a b : Int} (h : a = b) : Ending.returned (.tuple #[.int .u64 a, .bool true]) = Ending.returned (.tuple #[.int .u64 b, .bool true]) := by rw [h]
theorem numWord2W {w : World} {u : Value} {m km : Nat} (hu : Nn w u m km) : Calls Tryz.prog 196 #[u] w fun e w' => e = .returned (uintV m) ∧ ∃ j, w' = w.drewN j := by
  obtain ⟨⟨a, cap, rfl, hc, hcm, hd, hr⟩, hl⟩ := hu
  rcases nf_cases m with ⟨hn, hl⟩ | ⟨d0, b0, hn, hl⟩ | ⟨d0, d1, b0, b1, hn, hl⟩ | ⟨hn, hl⟩
  · rw [hl] at hr hc ⊢
    have HN := Lib.hid (show uintV m = .tuple #[.int .u64 0, .bool true] by rw [hn]; exact uintV_lt (by omega))
    clear hl hn hd hr; go_enter Tryz.func196, Tryz.ntmps196; go_wp2; go_ret2
    exact ⟨by rw [HN.out]; rfl, 0, rfl⟩
  · rw [hl] at hr hc ⊢; obtain ⟨b, off, rfl, hcell⟩ := hr (by simp)
    have c0 := hcell 0 (by simp)
    have HN := Lib.hid (show uintV m = .tuple #[.int .u64 (d0 : Int), .bool true] by rw [hn]; exact uintV_lt (by omega))
    simp only [List.length_cons, List.length_nil, Nat.reduceAdd, List.getD_eq_getElem?_getD, List.getElem?_cons_zero, Option.getD_some, Nat.add_zero] at c0 hc ⊢; clear hcell hn hl hr hd; go_enter Tryz.func196, Tryz.ntmps196; go_wp2; go_ret2
    exact ⟨by rw [HN.out]; rfl, 0, rfl⟩
  · rw [hl] at hr hc ⊢; obtain ⟨b, off, rfl, hcell⟩ := hr (by simp)
    have c0 := hcell 0 (by simp)
    have c1 := hcell 1 (by simp)
    have HN := Lib.hid (show uintV m = .tuple #[.int .u64 ((d0 : Int) + 4294967296 * (d1 : Int)), .bool true] by rw [hn, uintV_lt (by omega)]; rfl)
    simp only [List.length_cons, List.length_nil, Nat.reduceAdd, List.getD_eq_getElem?_getD, List.getElem?_cons_zero, List.getElem?_cons_succ, Option.getD_some, Nat.add_zero] at c0 c1 hc ⊢
    have ho2 := high_or d0 d1 b0 b1
    have HO := Lib.hid ho2; clear hcell hn hl hr hd ho2; go_enter Tryz.func196, Tryz.ntmps196; go_wp2
    go_quiet (fail)
    go_wp2; go_ret2
    refine ⟨?_, _, rfl⟩
    rw [HN.out]; exact u64_pair HO.out
  · have HN := Lib.hid (uintV_ge hn)
    generalize (nf m).length = n at *
    have h0 : ((n : Int) == 0) = false := by rw [beq_eq_false_iff_ne]; omega
    have h1 : ((n : Int) == 1) = false := by rw [beq_eq_false_iff_ne]; omega
    have h2 : ((n : Int) == 2) = false := by rw [beq_eq_false_iff_ne]; omega
    clear hn hr hd; go_enter Tryz.func196, Tryz.ntmps196; go_wp2; go_ret2
    exact ⟨by rw [HN.out]; rfl, 0, rfl⟩
end
end Go.Proofs.YtdlnoeegboapkaaGreatDoor
