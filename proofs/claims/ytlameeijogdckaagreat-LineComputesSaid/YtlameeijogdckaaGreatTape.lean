/-
  The tape of ints from which the laws make their arguments: what it is in memory, and the contracts of its methods Next and Nat, of New and of Nats.
-/
import Derived.Test.YtlameeijogdckaaGreatSmall
import Derived.Laws.Pointers
namespace Go.Proofs.YtlameeijogdckaaGreat
open Go.RowKit

/-- Block g holds a tape: a list of at most 400 ints in an older block, and a place in it. -/
def TapeAt (w : World) (g : Nat) : Prop :=
  ∃ (a : Option Addr) (n c at_ : Nat) (zs : List Int), w.heap[g]? = some (.cells #[.slice a n c, .int .i64 (at_ : Int)] 139 (0, 0)) ∧ n ≤ 400 ∧ at_ ≤ n ∧ zs.length = n ∧
    (∀ z ∈ zs, -9223372036854775808 ≤ z ∧ z < 9223372036854775808) ∧
    (0 < n → ∃ b off, a = some ⟨b, off, none⟩ ∧ b < g ∧ ∀ i, i < n → w.cell? ⟨b, off + i, none⟩ = some (.int .i64 (zs.getD i 0)))

theorem heap_lt {w : World} {k : Nat} {o : Obj} (h : w.heap[k]? = some o) : k < w.heap.size := by
  rcases Nat.lt_or_ge k w.heap.size with hlt | hge
  · exact hlt
  · rw [Array.getElem?_eq_none hge] at h; cases h
theorem TapeAt.lt {w : World} {g : Nat} (h : TapeAt w g) : g < w.heap.size := by
  obtain ⟨a, n, c, at_, zs, hh, _⟩ := h
  exact heap_lt hh
theorem TapeAt.same {w w' : World} {g : Nat} (h : TapeAt w g) (hs : ∀ k, k ≤ g → w'.heap[k]? = w.heap[k]?) : TapeAt w' g := by
  obtain ⟨a, n, c, at_, zs, hh, h1, h2, h3, h4, h5⟩ := h
  refine ⟨a, n, c, at_, zs, (hs g (Nat.le_refl _)).trans hh, h1, h2, h3, h4, fun h0 => ?_⟩
  obtain ⟨b, off, e, hb, hc⟩ := h5 h0
  exact ⟨b, off, e, hb, fun i hi => (World.cell?_of_block (hs b (by omega))).trans (hc i hi)⟩
theorem TapeAt.keep {w w' : World} {g : Nat} (h : TapeAt w g) (hb : Below w.heap.size w w') : TapeAt w' g :=
  h.same fun k hk => hb.block k (Nat.lt_of_le_of_lt hk h.lt)

theorem gb_refl (w : World) (row : Option Nat) : w.grownBy w row := ⟨rfl, rfl, rfl, Nat.le_refl _, fun _ _ _ => rfl⟩
theorem gb_trans {a b c : World} {row : Option Nat} (h : a.grownBy b row) (k : b.grownBy c row) : a.grownBy c row :=
  ⟨k.os.trans h.os, k.tape.trans h.tape, k.output.trans h.output, Nat.le_trans h.size k.size, fun i hi hr => (k.block i (Nat.lt_of_lt_of_le hi h.size) hr).trans (h.block i hi hr)⟩
theorem gb_below {a b c : World} {row : Option Nat} (h : a.grownBy b row) (k : Below b.heap.size b c) : a.grownBy c row :=
  ⟨k.os.trans h.os, k.tape.trans h.tape, k.output.trans h.output, Nat.le_trans h.size k.size, fun i hi hr => (k.block i (Nat.lt_of_lt_of_le hi h.size)).trans (h.block i hi hr)⟩
theorem gb_row {a b c : World} {row row' : Option Nat} (h : a.grownBy b row) (k : b.grownBy c row') (hr' : ∀ i, row' = some i → a.heap.size ≤ i) : a.grownBy c row :=
  ⟨k.os.trans h.os, k.tape.trans h.tape, k.output.trans h.output, Nat.le_trans h.size k.size, fun i hi hr => (k.block i (Nat.lt_of_lt_of_le hi h.size) (fun e => by have := hr' i e.symm; omega)).trans (h.block i hi hr)⟩
theorem gb_to_below {a b : World} {g : Nat} (h : a.grownBy b (some g)) (hg : a.heap.size ≤ g) : Below a.heap.size a b :=
  ⟨h.os, h.tape, h.output, h.size, fun i hi => h.block i hi (fun e => by injection e with e; omega)⟩
theorem below_gb {a b : World} {row : Option Nat} (h : Below a.heap.size a b) : a.grownBy b row :=
  ⟨h.os, h.tape, h.output, h.size, fun i hi _ => h.block i hi⟩
theorem blw_tp {w a b : World} {g : Nat} (h : Below w.heap.size w a) (hg : a.grownBy b (some g)) (hgw : w.heap.size ≤ g) : Below w.heap.size w b :=
  ⟨hg.os.trans h.os, hg.tape.trans h.tape, hg.output.trans h.output, Nat.le_trans h.size hg.size, fun i hi => (hg.block i (Nat.lt_of_lt_of_le hi h.size) (fun e => by injection e with e; omega)).trans (h.block i hi)⟩
/-- What is owned is not the tape: the tape may be read on. -/
theorem Own.tp {w w' : World} {base g : Nat} {v : Value} {l : List Nat} (h : Own w base v l) (ht : TapeAt w g) (hg : w.grownBy w' (some g)) : Own w' base v l := by
  refine ⟨h.1, World.ownsRow.kept h.2 hg ?_⟩
  rcases h.2.2 with ⟨rfl, _⟩ | ⟨b, cap, cur, rfl, _, hh, _⟩
  · exact .inl rfl
  · refine .inr fun e => ?_
    simp only [Value.ownBlock, Option.some.injEq] at e
    subst e
    obtain ⟨a, n, c, at_, zs, hh', _⟩ := ht
    rw [hh] at hh'
    injection hh' with h1
    injection h1 with _ h2
    exact absurd h2 (by decide)

theorem tmod_pos {z n : Int} (hn : 0 < n) : z.tmod n < n := Int.tmod_lt_of_pos z hn
theorem tmod_neg {z n : Int} (hn : 0 < n) : -n < z.tmod n := by
  rcases Int.lt_or_le z 0 with h0 | h0
  · have e : z.tmod n = -((-z).tmod n) := by rw [Int.neg_tmod, Int.neg_neg]
    have := Int.tmod_lt_of_pos (-z) hn
    omega
  · have := Int.tmod_nonneg n h0
    omega

set_option maxRecDepth 100000 in
set_option maxHeartbeats 1000000 in
/-- Next returns some number below n, and goes on. -/
theorem next_any (w : World) (g n : Nat) (hn : 0 < n) (hn2 : n ≤ 1000000) (ht : TapeAt w g) :
    Calls Tryz.prog 40 #[.pointer (some ⟨g, 0, none⟩), .int .i64 (n : Int)] w fun e w' => ∃ v : Nat, v < n ∧ e = .returned (.int .i64 (v : Int)) ∧ TapeAt w' g ∧ w.grownBy w' (some g) := by
  have ht' := ht
  obtain ⟨a, m, c, k, zs, hh, h1, h2, h3, h4, h5⟩ := ht
  have c0 : w.cell? ⟨g, 0, none⟩ = some (.slice a m c) := by rw [cell_of_row w g 0 _ _ _ hh]; rfl
  have c1 : w.cell? ⟨g, 1, none⟩ = some (.int .i64 (k : Int)) := by rw [cell_of_row w g 1 _ _ _ hh]; rfl
  have f1 : w.frozen? ⟨g, 1, none⟩ = false := frozen_of_row w g 1 _ _ hh
  have HT := Lib.hid ht'
  have HH := Lib.hid hh
  clear hh ht'
  go_enter Tryz.func40, Tryz.ntmps40
  by_cases hk : m ≤ k
  · go_wp2
    go_quiet (fail)
    go_wp2
    go_ret
    exact ⟨0, hn, rfl, HT.out.same fun _ _ => rfl, ⟨rfl, rfl, rfl, Nat.le_refl _, fun _ _ _ => rfl⟩⟩
  · obtain ⟨b, off, rfl, hb, hc⟩ := h5 (by omega)
    have ck := hc k (by omega)
    have hz := h4 (zs.getD k 0) (by
      rw [List.getD_eq_getElem?_getD, List.getElem?_eq_getElem (by omega)]; exact List.getElem_mem _)
    generalize zs.getD k 0 = z at *
    have b0 : (0 : Int) ≤ (k : Int) := by omega
    have b1 : (k : Int) < (m : Int) := by omega
    have hn3 : (0 : Int) < (n : Int) := by omega
    have t1 := @tmod_pos z (n : Int) hn3
    have t2 := @tmod_neg z (n : Int) hn3
    clear hc
    go_wp2
    go_quiet (fail)
    go_wp2
    go_quiet (fail)
    go_wp2
    all_goals go_ret
    all_goals
      have hfin : ∀ nq : Nat, TapeAt ((w.drewN nq).setCell ⟨g, 1, none⟩ (.int .i64 ((k : Int) + 1))) g ∧ w.grownBy ((w.drewN nq).setCell ⟨g, 1, none⟩ (.int .i64 ((k : Int) + 1))) (some g) := fun nq => by
        have hh2 : (w.drewN nq).heap[g]? = some (.cells #[.slice (some ⟨b, off, none⟩) m c, .int .i64 (k : Int)] 139 (0, 0)) := HH.out
        refine ⟨⟨some ⟨b, off, none⟩, m, c, k + 1, zs, ?_, h1, by omega, h3, h4, fun h0 => ?_⟩, ?_⟩
        · rw [heap_setCell_same _ g 1 _ _ _ hh2]; rfl
        · obtain ⟨b', off', e, hb', hc⟩ := h5 h0
          refine ⟨b', off', e, hb', fun i hi => ?_⟩
          rw [World.cell?_setCell_other _ _ _ _ (fun e2 => by injection e2 with e3; omega)]
          exact hc i hi
        · exact ⟨rfl, rfl, rfl, by simp, fun i hi hr => heap_setCell_other _ ⟨g, 1, none⟩ i _ (fun e => hr (by rw [e]))⟩
    · have hy : z.tmod (n : Int) < 0 := by assumption
      refine ⟨(z.tmod (n : Int) + (n : Int)).toNat, by omega, ?_, (hfin _).1, (hfin _).2⟩
      rw [Int.toNat_of_nonneg (by omega)]; rfl
    · have hy : 0 ≤ z.tmod (n : Int) := by assumption
      refine ⟨(z.tmod (n : Int)).toNat, by omega, ?_, (hfin _).1, (hfin _).2⟩
      rw [Int.toNat_of_nonneg (by omega)]; rfl

/-- append of one digit that has been laid in a block of its own; the tape, an older block, is not touched. -/
theorem app_digit (w0 w : World) {ops : Array Oper} {rest : List Oper} {o : Oper} {a : Act} {Q : Exit → Act → World → Prop} (hg : o.guard = none) (s x : Operand) (t t' : TypeId)
    (hop : o.op = .call { callee := .builtin .append, args := #[s, x], argTypes := #[t, t'] })
    (ht : Tryz.prog.underlying t = some (.slice 157)) (ht' : Tryz.prog.underlying t' = some (.slice 157)) (v : Value) (l : List Nat) (d g : Nat) (cs : Array Value) (hcs : cs = #[.int .u32 (d : Int)]) (hd : d < 4294967296)
    (hs : a.eval s = v) (hx : a.eval x = .slice (some ⟨w.heap.size, 0, none⟩) 1 1)
    (ho : Own w w0.heap.size v l) (hlen : l.length ≤ 1000000) (htp : TapeAt w g) (hgw : g < w0.heap.size) (hb : w0.grownBy w (some g))
    (hK : ∀ v' w', Own w' w0.heap.size v' (l ++ [d]) → TapeAt w' g → w0.grownBy w' (some g) → wpList Tryz.prog ops Q rest (a.put o.dst v') w') :
    wpList Tryz.prog ops Q (o :: rest) a (w.alloc (.cells cs 157)) := by
  have hB0 : Below w.heap.size w (w.alloc (.cells cs 157)) := blw_one w _
  refine app_u32 _ hg s x t t' hop ht ht' w0.heap.size v _ l [d] hs hx (ho.keep hB0) (rd_lit (w := w) rfl [d] (dig1 hd) (by simp) cs hcs 1 rfl) (by simp; omega) (by have := hb.size; simp; omega) ?_
  intro v' w' o1 g1 _
  refine hK v' w' o1 ?_ ?_
  · refine htp.same fun k hk => ?_
    have hk2 : k < w.heap.size := Nat.lt_of_le_of_lt hk htp.lt
    rw [g1.block k (by simp; omega) (fun e => by have := ho.2.lt k e.symm; omega), Below.heap_alloc w _ k hk2]
  · exact gb_row (gb_below hb hB0) g1 fun i hi => (ho.2.lt i hi).1

theorem or_lt32 (x y : Nat) (hx : x < 65536) (hy : y < 65536) : bits .or .u32 ((x : Int) * 65536) (y : Int) = ((x * 65536 ||| y : Nat) : Int) ∧ x * 65536 ||| y < 4294967296 := by
  have h : x * 65536 ||| y < 2 ^ 32 := Nat.or_lt_two_pow (by omega) (by omega)
  have h2 := u32_or_nat (x * 65536) y (by omega) (by omega)
  refine ⟨?_, by simpa using h⟩
  rw [← h2, Int.natCast_mul]
  rfl

/-- Own of the digits, and the tape still there. -/
def TapeNat (w : World) (g d : Nat) (e : Ending) (w' : World) : Prop :=
  ∃ z m, e = .returned z ∧ Own w' w.heap.size z (nf m) ∧ (nf m).length ≤ d ∧ TapeAt w' g ∧ w.grownBy w' (some g)


set_option maxRecDepth 100000 in
/-- New makes a tape of a list of ints. -/
theorem new_any (a0 : Option Addr) (len0 cap0 : Nat) (z0 : List Int) (w : World) (w0 : IsRow .i64 w a0 len0 cap0 z0) :
    Calls Tryz.prog 30 #[.slice a0 len0 cap0] w fun e w' => e = .returned (.pointer (some ⟨w.heap.size, 0, none⟩)) ∧ TapeAt w' w.heap.size ∧ Below w.heap.size w w' := by
  have hc : len0 ≤ cap0 ∧ cap0 ≤ 9223372036854775807 := by
    rcases w0 with ⟨_, rfl, rfl, _⟩ | ⟨x, _, h1, h2, _⟩
    · omega
    · unfold maxLen at h2; omega
  have fin : ∀ n, n = min len0 400 → TapeAt (w.alloc (.cells #[.slice a0 n cap0, .int .i64 0] 139)) w.heap.size := by
    intro n hn
    refine ⟨a0, n, cap0, 0, z0.take n, heap_alloc_new w _, by omega, by omega, ?_, ?_, fun h0 => ?_⟩
    · rcases w0 with ⟨_, rfl, rfl, rfl⟩ | ⟨x, _, h1, h2, h3, _⟩
      · simp at hn; subst hn; rfl
      · rw [List.length_take]; omega
    · intro z hz
      rcases w0 with ⟨_, _, _, rfl⟩ | ⟨x, _, h1, h2, h3, h4, h5⟩
      · simp at hz
      · exact wf_i64 (h5 z (List.mem_of_mem_take hz))
    · rcases w0 with ⟨_, rfl, rfl, rfl⟩ | ⟨x, rfl, h1, h2, h3, h4, h5⟩
      · omega
      · obtain ⟨b, off, spot⟩ := x
        have hspot : spot = none := by simpa [Addr.add] using World.cell?_spot (h4 0 (by omega))
        subst hspot
        have hlt : b < w.heap.size := by
          have := lt_of_cell (h4 0 (by omega))
          simpa [Addr.add] using this
        refine ⟨b, off, rfl, hlt, fun i hi => ?_⟩
        rw [World.cell?_alloc_past _ _ _ hlt]
        have hc := h4 i (by omega)
        rw [addr_plain] at hc
        rw [hc]
        congr 2
        rw [List.getD_eq_getElem?_getD, List.getD_eq_getElem?_getD, List.getElem?_take, if_pos hi]
  by_cases h4 : len0 ≤ 400
  · have hmin : min (len0 : Int) 400 = (len0 : Int) := by omega
    have hf := fin len0 (by omega)
    clear fin w0
    go_enter Tryz.func30, Tryz.ntmps30
    go_wp2
    go_ret
    exact ⟨rfl, hf, blw_one _ _⟩
  · have hmin : min (len0 : Int) 400 = 400 := by omega
    have hf := fin 400 (by omega)
    clear fin w0
    go_enter Tryz.func30, Tryz.ntmps30
    go_wp2
    go_ret
    exact ⟨rfl, hf, blw_one _ _⟩

set_option maxRecDepth 100000 in
set_option maxHeartbeats 1000000 in
/-- Nats copies a number's digits and appends k mod 3 zeros. -/
theorem nats_any (w : World) (v : Value) (l : List Nat) (k : Nat) (hk : k ≤ 1000000) (h : Rd w v l) (hl : l.length ≤ 1000000) :
    Calls Tryz.prog 123 #[v, .int .i64 (k : Int)] w fun e w' => ∃ z, e = .returned z ∧ Own w' w.heap.size z (l ++ List.replicate (k % 3) 0) ∧ Below w.heap.size w w' := by
  have hB0 : Below w.heap.size w (w.alloc (.cells #[] 157)) := blw_one w _
  go_enter Tryz.func123, Tryz.ntmps123
  go_wp2_with (at_builtin; go_loud (refine app_u32 _ rfl (.tmp 7) (.tmp 8) 23 32 rfl Tryz.underlying23 Tryz.underlying32 w.heap.size _ _ [] l rfl rfl (own_lit w [] dig_nil (by simp) _ rfl) (h.keep hB0) (by simp; omega) (by simp) ?_); intro v1 w1 o1 g1 _)
  have B1 := own_grown (own_lit w [] dig_nil (by simp) _ rfl) hB0 g1 (Nat.le_refl _)
  rw [List.nil_append] at o1
  go_loopw [5, 6] (fun o i wr => ∃ j : Nat, j ≤ k % 3 ∧ i = .int .i64 j ∧ Own wr w.heap.size o (l ++ List.replicate j 0) ∧ Below w.heap.size w wr) (fun _ i _ => k % 3 - (intOf i).toNat)
  case atStart => exact ⟨0, Nat.zero_le _, rfl, by simpa using o1, B1⟩
  case round =>
    obtain ⟨j, hj, rfl, hO, hB⟩ := hrel
    have hsz := hB.size
    by_cases hlt : j < k % 3
    · have hlen : (l ++ List.replicate j 0).length ≤ 1000003 := by simp; omega
      have hO2 := hO.keep (blw_one wr (.cells #[.int .u32 0] 157))
      have hB2 := blw_alloc hB (.cells #[.int .u32 0] 157)
      have hR := rd_lit (w := wr) rfl [0] (dig1 (by omega)) (by simp) #[.int .u32 0] rfl 1 rfl
      have e1 : (l ++ List.replicate j 0) ++ [0] = l ++ List.replicate (j + 1) 0 := by rw [List.append_assoc, List.replicate_succ']
      generalize l ++ List.replicate j 0 = L at *
      go_wp2_with (at_builtin; go_loud (refine app_u32 _ rfl (.tmp 16) (.tmp 17) 23 23 rfl Tryz.underlying23 Tryz.underlying23 w.heap.size _ _ L [0] rfl rfl hO2 hR (by simp; omega) (by simp; omega) ?_); intro v2 w2 o2 g2 _)
      have B2 := own_grown hO2 hB2 g2 (Nat.le_refl _)
      go_roundw
      case rel => exact ⟨j + 1, by omega, by go_num, by rw [← e1]; exact o2, B2⟩
      case measure => simp [intOf]; omega
    · obtain rfl : j = k % 3 := by omega
      go_wp2
      go_ret
      exact ⟨_, rfl, hO, hB⟩
theorem val_zeros (l : List Nat) (k : Nat) : val (l ++ List.replicate k 0) = val l := by rw [val_append, val_replicate]; simp
end Go.Proofs.YtlameeijogdckaaGreat
