/-
  Rows of bytes that the call itself has made: appending to them, reversing them (slices.Reverse), and what string(..) makes of them.
-/
import Derived.Test.YtlameeijogdckaaGreatBase
import Derived.Laws.BytesArg
namespace Go.Proofs.YtlameeijogdckaaGreat
open Go.RowKit

theorem info_u8 : (Tryz.prog.info? 5).map (fun i => (i.zero, i.size, i.bytes)) = some (some (.int .u8 0), 1, 1) := by kernel_rfl
def dvb (d : Nat) : Value := .int .u8 (d : Int)
def OwnB (w : World) (base : Nat) (v : Value) (l : List Nat) : Prop := w.ownsRow base 5 1 v l.length (l.map dvb)
def RowB (w : World) (base g cap : Nat) (l : List Nat) : Prop := OwnB w base (.slice (some ⟨g, 0, none⟩) l.length cap) l

theorem map_dvb_get (l : List Nat) (j : Nat) (h : j < l.length) : (l.map dvb)[j]? = some (.int .u8 ((l.getD j 0 : Nat) : Int)) := by
  rw [List.getElem?_map, List.getElem?_eq_getElem h, List.getD_eq_getElem?_getD, List.getElem?_eq_getElem h]; rfl
theorem OwnB.shape {w : World} {base : Nat} {v : Value} {l : List Nat} (h : OwnB w base v l) : (v = .slice none 0 0 ∧ l = []) ∨ ∃ g cap, v = .slice (some ⟨g, 0, none⟩) l.length cap ∧ base ≤ g ∧ g < w.heap.size ∧ l.length ≤ cap ∧ cap ≤ 9223372036854775807 ∧ RowB w base g cap l := by
  have h' := h
  rcases h.2 with ⟨rfl, h0⟩ | ⟨g, cap, cur, rfl, hb, hg, hnc, hcm, hcs, htake⟩
  · exact .inl ⟨rfl, List.eq_nil_of_length_eq_zero h0⟩
  · refine .inr ⟨g, cap, rfl, hb, ?_, hnc, hcm, h'⟩
    rcases Nat.lt_or_ge g w.heap.size with hlt | hge
    · exact hlt
    · rw [Array.getElem?_eq_none hge] at hg; cases hg
theorem OwnB.nil (w : World) (base : Nat) : OwnB w base (.slice none 0 0) [] := World.ownsRow_nil _ _ _ _
theorem OwnB.keep {w w' : World} {base : Nat} {v : Value} {l : List Nat} (h : OwnB w base v l) (hb : Below w.heap.size w w') : OwnB w' base v l := by
  refine ⟨h.1, ?_⟩
  rcases h.2 with h0 | ⟨g, cap, cur, e, hg, hh, rest⟩
  · exact .inl h0
  · refine .inr ⟨g, cap, cur, e, hg, ?_, rest⟩
    have : g < w.heap.size := by
      rcases Nat.lt_or_ge g w.heap.size with hlt | hge
      · exact hlt
      · rw [Array.getElem?_eq_none hge] at hh; cases hh
    rw [hb.block g this, hh]
theorem RowB.lt {w : World} {base g cap : Nat} {l : List Nat} (h : RowB w base g cap l) : base ≤ g ∧ g < w.heap.size := by
  rcases OwnB.shape h with ⟨e, _⟩ | ⟨g', cap', e, h1, h2, _⟩
  · simp at e
  · simp only [Value.slice.injEq, Option.some.injEq, Addr.mk.injEq, and_true, true_and] at e
    obtain ⟨rfl, rfl⟩ := e
    exact ⟨h1, h2⟩
theorem RowB.cell {w : World} {base g cap : Nat} {l : List Nat} (h : RowB w base g cap l) {j : Nat} (hj : j < l.length) : w.cell? ⟨g, j, none⟩ = some (.int .u8 ((l.getD j 0 : Nat) : Int)) := by
  rw [World.ownsRow.cellAt h j (by omega), map_dvb_get l j hj]
theorem RowB.free {w : World} {base g cap : Nat} {l : List Nat} (h : RowB w base g cap l) (j : Nat) : w.frozen? ⟨g, j, none⟩ = false := World.ownsRow.frozenAt h j
theorem RowB.set {w : World} {base g cap : Nat} {l : List Nat} (h : RowB w base g cap l) (j d : Nat) :
    RowB (w.setCell ⟨g, j, none⟩ (.int .u8 (d : Int))) base g cap (l.set j d) := by
  have h1 := (World.ownsRow.stored h j (.int .u8 (d : Int))).1
  unfold RowB OwnB
  rw [List.length_set, List.map_set]
  exact h1
theorem ownB_grown {w0 w w' : World} {base : Nat} {v : Value} {l : List Nat} (ho : OwnB w base v l) (hB : Below w0.heap.size w0 w) (hg : w.grownBy w' v.ownBlock) (hb : w0.heap.size ≤ base) : Below w0.heap.size w0 w' := by
  refine hB.grown hg hB.size fun k hk => ?_
  have := World.ownsRow.lt ho k hk
  omega

theorem own_beside {w w' : World} {base base' : Nat} {z v : Value} {l m : List Nat} (hz : Own w base' z l) (ho : OwnB w base v m) (ob : Obj) (hg : (w.alloc ob).grownBy w' v.ownBlock) : Own w' base' z l := by
  refine ⟨hz.1, World.ownsRow.kept (World.ownsRow.alloc hz.2 ob) hg ?_⟩
  rcases hz.2.2 with ⟨rfl, _⟩ | ⟨g, cap, cur, rfl, _, hh, _⟩
  · exact .inl rfl
  · refine .inr fun e => ?_
    rcases ho.2 with ⟨rfl, _⟩ | ⟨g', cap', cur', rfl, _, hh', _⟩
    · cases e
    · simp only [Value.ownBlock, Option.some.injEq] at e
      subst e
      rw [hh] at hh'
      injection hh' with h1
      injection h1 with _ h2
      exact absurd h2 (by decide)
/-- append of one byte: it has been laid in a block of its own. -/
theorem app_byte (w : World) {ops : Array Oper} {rest : List Oper} {o : Oper} {a : Act} {Q : Exit → Act → World → Prop} (hg : o.guard = none) (s x : Operand) (t : TypeId)
    (hop : o.op = .call { callee := .builtin .append, args := #[s, x], argTypes := #[t, t] })
    (ht : Tryz.prog.underlying t = some (.slice 5)) (base : Nat) (v : Value) (l : List Nat) (d : Nat) (hs : a.eval s = v) (hx : a.eval x = .slice (some ⟨w.heap.size, 0, none⟩) 1 1)
    (ho : OwnB w base v l) (hlen : l.length ≤ 100000000000) (hbase : base ≤ w.heap.size)
    (hK : ∀ v' w', OwnB w' base v' (l ++ [d]) → (∀ w0 : World, Below w0.heap.size w0 w → w0.heap.size ≤ base → Below w0.heap.size w0 w') → (∀ base' z m, Own w base' z m → Own w' base' z m) → wpList Tryz.prog ops Q rest (a.put o.dst v') w') :
    wpList Tryz.prog ops Q (o :: rest) a (w.alloc (.cells #[.int .u8 (d : Int)] 5)) := by
  obtain ⟨i0, hi, hz0, hz1, hz2⟩ := info_parts info_u8
  have ho2 : OwnB (w.alloc (.cells #[.int .u8 (d : Int)] 5)) base v l := World.ownsRow.alloc ho _
  refine wpList_append_own _ hg s x t hop base 5 i0 (.int .u8 0) 1 1 ht hi hz0 hz1 hz2 rfl (by omega) v l.length (l.map dvb) hs ho2 ⟨w.heap.size, 0, none⟩ 1 1 [.int .u8 (d : Int)] hx rfl (fun j u hu => ?_) (fun u hu => ?_) (by unfold maxLen; omega) (by omega) (by simp; omega) ?_
  · match j, hu with
    | 0, hu =>
      simp only [List.getElem?_cons_zero, Option.some.injEq] at hu
      subst hu
      rw [addr_plain, World.cell?_alloc_at _ _ _ _ (by simp)]
      rfl
    | j + 1, hu => simp at hu
  · simp only [List.mem_singleton] at hu
    subst hu; rfl
  · intro v' w' h1 h2 _
    refine hK v' w' ?_ (fun w0 hB hb => ?_) (fun base' z m hz => own_beside hz ho _ h2)
    · unfold OwnB
      rw [List.length_append, List.map_append]
      exact h1
    · exact ownB_grown ho2 (hB.alloc hB.size _) h2 hb

theorem rev_get {l : List Nat} {j : Nat} (h : j < l.length) : l.reverse.getD j 0 = l.getD (l.length - 1 - j) 0 := by
  rw [List.getD_eq_getElem?_getD, List.getD_eq_getElem?_getD, List.getElem?_reverse h]

set_option maxRecDepth 100000 in
set_option maxHeartbeats 1000000 in
/-- slices.Reverse turns the row round. -/
theorem reverse_row (w : World) (base g cap n : Nat) (l : List Nat) (h : RowB w base g cap l) (hn : l.length = n) (hl : l.length ≤ 100000000000) :
    Calls Tryz.prog 239 #[.slice (some ⟨g, 0, none⟩) n cap] w fun e w' => e = .returned (.tuple #[]) ∧ RowB w' base g cap l.reverse ∧ Below g w w' := by
  subst hn
  have HR := Lib.hid h
  clear h
  go_enter Tryz.func239, Tryz.ntmps239
  go_wp2
  go_loopw [2, 3] (fun i j wr => ∃ (k : Nat) (L : List Nat), k ≤ l.length ∧ i = .int .i64 k ∧ j = .int .i64 ((l.length : Int) - 1 - (k : Int)) ∧ Hid (RowB wr base g cap L) ∧ Hid (L.length = l.length) ∧ Below g w wr ∧
      Hid (∀ t, t < l.length → L.getD t 0 = if t < k ∨ l.length ≤ t + k then l.getD (l.length - 1 - t) 0 else l.getD t 0)) (fun i _ _ => l.length - (intOf i).toNat)
  case atStart => exact ⟨0, l, Nat.zero_le _, rfl, by go_num, HR, rfl, Below.refl _ _, fun t ht => by rw [if_neg (by omega)]⟩
  case round =>
    obtain ⟨k, L, hk, rfl, rfl, hR, hL, hB, hE⟩ := hrel
    by_cases hlt : k + k + 1 < l.length
    · have hc1 := hR.out.cell (j := k) (by rw [hL.out]; omega)
      have hc2 := hR.out.cell (j := l.length - 1 - k) (by rw [hL.out]; omega)
      have hf1 := hR.out.free k
      have hf2 := hR.out.free (l.length - 1 - k)
      have hx := hE.out k (by omega)
      have hy := hE.out (l.length - 1 - k) (by omega)
      rw [if_neg (by omega)] at hx hy
      rw [hx] at hc1
      rw [hy] at hc2
      have HN : Hid (∀ t, t < l.length → ((L.set k (l.getD (l.length - 1 - k) 0)).set (l.length - 1 - k) (l.getD k 0)).getD t 0 = if t < k + 1 ∨ l.length ≤ t + (k + 1) then l.getD (l.length - 1 - t) 0 else l.getD t 0) := by
        intro t ht
        by_cases h1 : t = l.length - 1 - k
        · subst h1
          rw [set_getD_eq _ _ _ (by rw [List.length_set, hL.out]; omega), if_pos (by omega)]
          congr 1
          omega
        · rw [set_getD_ne _ _ _ _ (Ne.symm h1)]
          by_cases h2 : t = k
          · subst h2
            rw [set_getD_eq _ _ _ (by rw [hL.out]; omega), if_pos (by omega)]
          · rw [set_getD_ne _ _ _ _ (Ne.symm h2), hE.out t ht]
            by_cases h3 : t < k ∨ l.length ≤ t + k
            · rw [if_pos h3, if_pos (by omega)]
            · rw [if_neg h3, if_neg (by omega)]
      generalize l.getD k 0 = x at *
      generalize l.getD (l.length - 1 - k) 0 = y at *
      have b0 : (0 : Int) ≤ (k : Int) := by omega
      have b1 : (k : Int) < (l.length : Int) := by omega
      have b2 : (0 : Int) ≤ (l.length : Int) - 1 - (k : Int) := by omega
      have b3 : (l.length : Int) - 1 - (k : Int) < (l.length : Int) := by omega
      have b4 : (k : Int) < (l.length : Int) - 1 - (k : Int) := by omega
      clear hx hy
      go_wp2
      go_region
      all_goals
        go_wp2
        go_roundw
        case rel => exact ⟨k + 1, (L.set k y).set (l.length - 1 - k) x, by omega, by go_num, by go_num, ((hR.out.set k y).set (l.length - 1 - k) x), by show _ = _; rw [List.length_set, List.length_set]; exact hL.out,
            (hB.drew.setCell (Nat.le_refl _) _).setCell (Nat.le_refl _) _, HN⟩
        case measure => simp [intOf]; omega
    · have hz : (l.length : Int) - 1 - (k : Int) ≤ (k : Int) := by omega
      have HN : Hid (L = l.reverse) := by
        refine List.ext_getElem (by rw [List.length_reverse]; exact hL.out) fun t h1 h2 => ?_
        have h3 := hE.out t (by rw [← hL.out]; exact h1)
        have h4 := rev_get (l := l) (j := t) (by rw [← hL.out]; exact h1)
        rw [List.getD_eq_getElem?_getD, List.getElem?_eq_getElem h1] at h3
        rw [List.getD_eq_getElem?_getD, List.getElem?_eq_getElem h2] at h4
        simp only [Option.getD_some] at h3 h4
        rw [h3, h4]
        split
        · rfl
        · rw [hL.out] at h1
          congr 1
          omega
      go_wp2
      go_end0
      exact ⟨rfl, by rw [← HN.out]; exact hR.out, hB⟩
end Go.Proofs.YtlameeijogdckaaGreat
