/-
  What a slice of 32-bit digits in memory reads as, and what it means to own one: the words in which all contracts of this claim are stated.
-/
import Derived.Test.YtlameeijogdckaaGreatProg
import Derived.Test.YtlameeijogdckaaGreatArith
import Derived.WalkKit
import Derived.Lib.Hide
import Derived.Maps.AppendAt
import Derived.Deep.QuietTactic
import Derived.BigQuiet
namespace Go.Proofs.YtlameeijogdckaaGreat
open Go.RowKit

def lenOf : Value → Nat | .slice _ n _ => n | _ => 0
theorem info_u32 : (Tryz.prog.info? 157).map (fun i => (i.zero, i.size, i.bytes)) = some (some (.int .u32 0), 1, 4) := by kernel_rfl

def dv (d : Nat) : Value := .int .u32 (d : Int)
/-- The cells of a slice at address a hold the digits l. -/
def Cells (w : World) (a : Option Addr) (l : List Nat) : Prop :=
  0 < l.length → ∃ b off, a = some ⟨b, off, none⟩ ∧ ∀ i, i < l.length → w.cell? ⟨b, off + i, none⟩ = some (.int .u32 ((l.getD i 0 : Nat) : Int))
/-- The slice v reads as the digits l. -/
def Rd (w : World) (v : Value) (l : List Nat) : Prop :=
  ∃ a cap, v = .slice a l.length cap ∧ l.length ≤ cap ∧ cap ≤ 9223372036854775807 ∧ Dig l ∧ Cells w a l
/-- The slice v is of the call's own, in a block from base on, and holds the digits l. -/
def Own (w : World) (base : Nat) (v : Value) (l : List Nat) : Prop :=
  Dig l ∧ w.ownsRow base 157 1 v l.length (l.map dv)

theorem lt_of_cell {w : World} {a : Addr} {v : Value} (h : w.cell? a = some v) : a.block < w.heap.size := by
  rcases Nat.lt_or_ge a.block w.heap.size with hlt | hge
  · exact hlt
  · simp [World.cell?, Array.getElem?_eq_none hge] at h

theorem Cells.keep {w w' : World} {a : Option Addr} {l : List Nat} (h : Cells w a l) (hb : Below w.heap.size w w') : Cells w' a l := by
  intro h0
  obtain ⟨b, off, rfl, hc⟩ := h h0
  exact ⟨b, off, rfl, fun i hi => (hb.cell (lt_of_cell (hc i hi))).trans (hc i hi)⟩
theorem Rd.keep {w w' : World} {v : Value} {l : List Nat} (h : Rd w v l) (hb : Below w.heap.size w w') : Rd w' v l := by
  obtain ⟨a, cap, rfl, h1, h2, h3, h4⟩ := h
  exact ⟨a, cap, rfl, h1, h2, h3, h4.keep hb⟩
theorem Rd.dig {w : World} {v : Value} {l : List Nat} (h : Rd w v l) : Dig l := by
  obtain ⟨a, cap, rfl, h1, h2, h3, h4⟩ := h
  exact h3
theorem Rd.nil (w : World) : Rd w (.slice none 0 0) [] := ⟨none, 0, rfl, Nat.le_refl _, by omega, dig_nil, fun h => absurd h (by simp)⟩

theorem map_dv_length (l : List Nat) : (l.map dv).length = l.length := by simp
theorem map_dv_get (l : List Nat) (j : Nat) (h : j < l.length) : (l.map dv)[j]? = some (.int .u32 ((l.getD j 0 : Nat) : Int)) := by
  rw [List.getElem?_map, List.getElem?_eq_getElem h, List.getD_eq_getElem?_getD, List.getElem?_eq_getElem h]; rfl

theorem Own.dig {w : World} {base : Nat} {v : Value} {l : List Nat} (h : Own w base v l) : Dig l := h.1
theorem Own.shape {w : World} {base : Nat} {v : Value} {l : List Nat} (h : Own w base v l) :
    (v = .slice none 0 0 ∧ l = []) ∨ ∃ g cap, v = .slice (some ⟨g, 0, none⟩) l.length cap ∧ base ≤ g ∧ g < w.heap.size ∧ l.length ≤ cap ∧ cap ≤ 9223372036854775807 ∧
      (∀ i, i < l.length → w.cell? ⟨g, i, none⟩ = some (.int .u32 ((l.getD i 0 : Nat) : Int))) ∧ (∀ i, w.frozen? ⟨g, i, none⟩ = false) := by
  have h' := h.2
  rcases h.2.2 with ⟨rfl, h0⟩ | ⟨g, cap, cur, rfl, hb, hg, hnc, hcm, hcs, htake⟩
  · exact .inl ⟨rfl, List.eq_nil_of_length_eq_zero h0⟩
  · refine .inr ⟨g, cap, rfl, hb, ?_, hnc, hcm, fun i hi => ?_, fun i => h'.frozenAt i⟩
    · rcases Nat.lt_or_ge g w.heap.size with hlt | hge
      · exact hlt
      · rw [Array.getElem?_eq_none hge] at hg; cases hg
    · rw [h'.cellAt i (by omega), map_dv_get l i hi]
theorem Own.rd {w : World} {base : Nat} {v : Value} {l : List Nat} (h : Own w base v l) : Rd w v l := by
  rcases h.shape with ⟨rfl, rfl⟩ | ⟨g, cap, rfl, _, _, h1, h2, hc, _⟩
  · exact Rd.nil w
  · exact ⟨_, cap, rfl, h1, h2, h.1, fun _ => ⟨g, 0, rfl, fun i hi => by rw [Nat.zero_add]; exact hc i hi⟩⟩
theorem Own.mono {w : World} {base base' : Nat} {v : Value} {l : List Nat} (h : Own w base v l) (hb : base' ≤ base) : Own w base' v l := by
  refine ⟨h.1, h.2.1, ?_⟩
  rcases h.2.2 with h0 | ⟨g, cap, cur, e, hg, rest⟩
  · exact .inl h0
  · exact .inr ⟨g, cap, cur, e, Nat.le_trans hb hg, rest⟩
theorem Own.keep {w w' : World} {base : Nat} {v : Value} {l : List Nat} (h : Own w base v l) (hb : Below w.heap.size w w') : Own w' base v l := by
  refine ⟨h.1, h.2.1, ?_⟩
  rcases h.2.2 with h0 | ⟨g, cap, cur, e, hg, hh, rest⟩
  · exact .inl h0
  · refine .inr ⟨g, cap, cur, e, hg, ?_, rest⟩
    have : g < w.heap.size := by
      rcases Nat.lt_or_ge g w.heap.size with hlt | hge
      · exact hlt
      · rw [Array.getElem?_eq_none hge] at hh; cases hh
    rw [hb.block g this, hh]
theorem Own.nil (w : World) (base : Nat) : Own w base (.slice none 0 0) [] := ⟨dig_nil, World.ownsRow_nil _ _ _ _⟩
/-- The first digits of what is owned are owned. -/
theorem Own.take {w : World} {base g cap : Nat} {l : List Nat} (h : Own w base (.slice (some ⟨g, 0, none⟩) l.length cap) l) (k : Nat) (hk : k ≤ l.length) :
    Own w base (.slice (some ⟨g, 0, none⟩) k cap) (l.take k) := by
  refine ⟨dig_take h.1 k, by simp, ?_⟩
  rcases h.2.2 with ⟨h0, _⟩ | ⟨g', cap', cur, e, hg, hh, hnc, hcm, hcs, htake⟩
  · simp at h0
  · simp only [Value.slice.injEq, Option.some.injEq, Addr.mk.injEq, and_true, true_and] at e
    obtain ⟨rfl, rfl⟩ := e
    have e1 : (l.take k).length = k := by rw [List.length_take]; omega
    refine .inr ⟨g, cap, cur, by rw [e1], hg, hh, by omega, hcm, hcs, ?_⟩
    rw [List.map_take, ← htake, List.take_take]
    congr 1
    omega

/-! ### a block of the call's own that is being written -/
/-- The slice at block g, of the call's own, holds the digits l; there is room for cap. -/
def Row (w : World) (base g cap : Nat) (l : List Nat) : Prop := Own w base (.slice (some ⟨g, 0, none⟩) l.length cap) l
theorem Row.lt {w : World} {base g cap : Nat} {l : List Nat} (h : Row w base g cap l) : base ≤ g ∧ g < w.heap.size := by
  rcases Own.shape h with ⟨e, _⟩ | ⟨g', cap', e, h1, h2, _⟩
  · simp at e
  · simp only [Value.slice.injEq, Option.some.injEq, Addr.mk.injEq, and_true, true_and] at e
    obtain ⟨rfl, rfl⟩ := e
    exact ⟨h1, h2⟩
theorem Row.cap {w : World} {base g cap : Nat} {l : List Nat} (h : Row w base g cap l) : l.length ≤ cap ∧ cap ≤ 9223372036854775807 := by
  rcases Own.shape h with ⟨e, _⟩ | ⟨g', cap', e, _, _, h1, h2, _⟩
  · simp at e
  · simp only [Value.slice.injEq, Option.some.injEq, Addr.mk.injEq, and_true, true_and] at e
    obtain ⟨rfl, rfl⟩ := e
    exact ⟨h1, h2⟩
theorem Row.dig {w : World} {base g cap : Nat} {l : List Nat} (h : Row w base g cap l) : Dig l := h.1
theorem Row.cell {w : World} {base g cap : Nat} {l : List Nat} (h : Row w base g cap l) {j : Nat} (hj : j < l.length) : w.cell? ⟨g, j, none⟩ = some (.int .u32 ((l.getD j 0 : Nat) : Int)) := by
  rw [World.ownsRow.cellAt h.2 j (by omega), map_dv_get l j hj]
theorem Row.free {w : World} {base g cap : Nat} {l : List Nat} (h : Row w base g cap l) (j : Nat) : w.frozen? ⟨g, j, none⟩ = false := World.ownsRow.frozenAt h.2 j
theorem Row.set {w : World} {base g cap : Nat} {l : List Nat} (h : Row w base g cap l) (j : Nat) {d : Nat} (hd : d < 4294967296) :
    Row (w.setCell ⟨g, j, none⟩ (.int .u32 (d : Int))) base g cap (l.set j d) := by
  have h1 := (World.ownsRow.stored h.2 j (.int .u32 (d : Int))).1
  refine ⟨dig_set h.1 j hd, ?_⟩
  rw [List.length_set, List.map_set]
  exact h1
theorem Row.keep {w w' : World} {base g cap : Nat} {l : List Nat} (h : Row w base g cap l) (hb : Below w.heap.size w w') : Row w' base g cap l := Own.keep h hb
theorem Row.rd {w : World} {base g cap : Nat} {l : List Nat} (h : Row w base g cap l) : Rd w (.slice (some ⟨g, 0, none⟩) l.length cap) l := Own.rd h
theorem row_made {w : World} {base g n : Nat} (h : w.ownsRow base 157 1 (.slice (some ⟨g, 0, none⟩) n n) n (madeCells (Value.cells (.int .u32 0)) (n * 1)).toList) : Row w base g n (List.replicate n 0) := by
  refine ⟨dig_replicate n, ?_⟩
  have e : (madeCells (Value.cells (.int .u32 0)) (n * 1)).toList = (List.replicate n 0).map dv := by
    rw [Nat.mul_one]
    show (madeCells #[.int .u32 0] n).toList = _
    rw [toList_madeCells_one, List.map_replicate]
    rfl
  rw [e] at h
  simpa using h
/-- A slice elsewhere is not touched by a store into the row. -/
theorem Cells.setOther {w : World} {a : Option Addr} {l : List Nat} (h : Cells w a l) {B g j : Nat} (hl : 0 < l.length → ∀ b off, a = some ⟨b, off, none⟩ → b < B) (hg : B ≤ g) (u : Value) : Cells (w.setCell ⟨g, j, none⟩ u) a l := by
  intro h0
  obtain ⟨b, off, rfl, hc⟩ := h h0
  have := hl h0 b off rfl
  refine ⟨b, off, rfl, fun i hi => ?_⟩
  rw [World.cell?_setCell_other _ _ _ _ (fun e => by injection e with e1; omega)]
  exact hc i hi
/-- 'make' of n digits: a new row of zeros. -/
theorem make_u32 (w : World) {ops : Array Oper} {rest : List Oper} {o : Oper} {a : Act} {Q : Exit → Act → World → Prop}
    (hg : o.guard = none) (l c : Operand) (t : TypeId) (hop : o.op = Op.makeSlice t l c) (h1 : Tryz.prog.underlying t = some (.slice 157))
    (L C : Int) (n : Nat) (hl : a.eval l = .int .i64 L) (hc : a.eval c = .int .i64 C) (hL : L = (n : Int)) (hC : C = (n : Int)) (hn : n ≤ 1000000000)
    (hK : ∀ w', Row w' w.heap.size w.heap.size n (List.replicate n 0) → Below w.heap.size w w' → wpList Tryz.prog ops Q rest (a.put o.dst (.slice (some ⟨w.heap.size, 0, none⟩) n n)) w') :
    wpList Tryz.prog ops Q (o :: rest) a w := by
  obtain ⟨i0, hi, hz0, hz1, hz2⟩ := info_parts info_u32
  exact wpList_make_full w hg l c t hop w.heap.size 157 i0 (.int .u32 0) 1 h1 hi hz0 hz1 .i64 .i64 L C n hl hc hL hC (by rw [hz2]; omega) (by unfold maxLen; omega) (Nat.le_refl _)
    fun w' r g => hK w' (row_made r) ((Below.refl w.heap.size w).grown g (Nat.le_refl _) (by simp))
theorem Cells.below {w : World} {a : Option Addr} {l : List Nat} (h : Cells w a l) (h0 : 0 < l.length) : ∀ b off, a = some ⟨b, off, none⟩ → b < w.heap.size := fun b off e => by
  obtain ⟨b2, off2, e2, hc⟩ := h h0
  rw [e] at e2; injection e2 with e2; injection e2 with e3 e4; subst e3; subst e4
  exact lt_of_cell (hc 0 h0)
/-- What can be read of a slice in the middle of a loop: its address, and cell k. -/
theorem Cells.at {w wr : World} {a : Option Addr} {l : List Nat} (h : Cells w a l) (hb : Below w.heap.size w wr) {k : Nat} (hk : k < l.length) :
    ∃ b off, a = some ⟨b, off, none⟩ ∧ wr.cell? ⟨b, off + k, none⟩ = some (.int .u32 ((l.getD k 0 : Nat) : Int)) := by
  obtain ⟨b, off, rfl, hc⟩ := h (by omega)
  exact ⟨b, off, rfl, (hb.cell (h.below (by omega) b off rfl)).trans (hc k hk)⟩
theorem blw_drewN {B : Nat} {a w : World} (h : Below B a w) (n : Nat) : Below B a (w.drewN n) := ⟨h.os, h.tape, h.output, h.size, h.block⟩

/-! ### append -/
theorem addr_plain (b off j : Nat) : (⟨b, off, none⟩ : Addr).add j = ⟨b, off + j, none⟩ := by
  unfold Addr.add
  split
  · rename_i h; subst h; rfl
  · rfl
theorem run_append_types {P : Program} (t t' ty e : TypeId) (ht : P.underlying t = some (.slice e)) (ht' : P.underlying t' = some (.slice e)) (a x : Option Addr) (n c m d : Nat) (w : World) :
    (Builtin.append_ #[t, t'] ty #[.slice a n c, .slice x m d]).run P w = (Builtin.append_ #[t, t] ty #[.slice a n c, .slice x m d]).run P w := by
  simp [Builtin.append_, run_underlying ht, run_underlying ht']
theorem run_app (t t' ty : TypeId) (ht : Tryz.prog.underlying t = some (.slice 157)) (ht' : Tryz.prog.underlying t' = some (.slice 157)) (w : World) (base : Nat) (v x : Value) (l m : List Nat)
    (ho : Own w base v l) (hx : Rd w x m) (hlen : l.length + m.length ≤ 1000000000) (hbase : base ≤ w.heap.size) :
    ∃ v' w', (Builtin.append_ #[t, t'] ty #[v, x]).run Tryz.prog w = .ok v' w' ∧ Own w' base v' (l ++ m) ∧ w.grownBy w' v.ownBlock ∧ (v'.ownBlock = v.ownBlock ∨ v'.ownBlock = some w.heap.size) := by
  obtain ⟨i0, hi, hz0, hz1, hz2⟩ := info_parts info_u32
  obtain ⟨a, cap, rfl, hc, hcm, hd, hr⟩ := hx
  have hsh : ∃ a n c, v = .slice a n c := by
    rcases ho.2.2 with ⟨rfl, _⟩ | ⟨g, cap', cur, rfl, _⟩
    · exact ⟨_, _, _, rfl⟩
    · exact ⟨_, _, _, rfl⟩
  have htt : (Builtin.append_ #[t, t'] ty #[v, .slice a m.length cap]).run Tryz.prog w = (Builtin.append_ #[t, t] ty #[v, .slice a m.length cap]).run Tryz.prog w := by
    obtain ⟨a', n', c', rfl⟩ := hsh
    exact run_append_types t t' ty 157 ht ht' _ _ _ _ _ _ w
  rw [htt]
  clear htt hsh
  have nilCase : m = [] → (Builtin.append_ #[t, t] ty #[v, .slice none 0 cap]).run Tryz.prog w = .ok v w := by
    intro _
    rcases ho.2.2 with ⟨rfl, h0⟩ | ⟨g, cap', cur, rfl, _, _, hnc, _⟩
    · simp [Builtin.append_, run_underlying ht, sizeOf, typeInfo, hi, Builtin.lenOf, Builtin.firstCells]
    · simp [Builtin.append_, run_underlying ht, sizeOf, typeInfo, hi, Builtin.lenOf, Builtin.firstCells, hnc, storeCells]
  rcases a with _ | ad
  · have hm : m = [] := by
      rcases Nat.eq_zero_or_pos m.length with h0 | h0
      · exact List.eq_nil_of_length_eq_zero h0
      · obtain ⟨b, off, e, _⟩ := hr h0
        cases e
    subst hm
    exact ⟨v, w, nilCase rfl, by simpa using ho, ⟨rfl, rfl, rfl, Nat.le_refl _, fun _ _ _ => rfl⟩, .inl rfl⟩
  · obtain ⟨v', w', hrun, h2, h3, _, h5⟩ := run_append_own_at (P := Tryz.prog) w base t ty 157 i0 (.int .u32 0) 1 4 ht hi hz0 hz1 hz2 rfl (by omega) v l.length (l.map dv) ho.2 ad m.length cap (m.map dv)
      (by simp) (fun j u hu => by
        have hj : j < m.length := by
          rcases Nat.lt_or_ge j m.length with h | h
          · exact h
          · rw [List.getElem?_eq_none (by simpa using h)] at hu; cases hu
        obtain ⟨b, off, e, hcell⟩ := hr (by omega)
        have e2 := Option.some.inj e
        subst e2
        rw [map_dv_get m j hj] at hu
        rw [← hu, addr_plain]
        exact hcell j hj) (fun u hu => by
        obtain ⟨d, _, rfl⟩ := List.mem_map.1 hu
        rfl) (by unfold maxLen; omega) (by omega) hbase
    refine ⟨v', w', hrun, ⟨dig_append ho.1 hd, ?_⟩, h3, h5⟩
    rw [List.length_append, List.map_append]
    exact h2
theorem app_u32 (w : World) {ops : Array Oper} {rest : List Oper} {o : Oper} {a : Act} {Q : Exit → Act → World → Prop} (hg : o.guard = none) (s x : Operand) (t t' : TypeId)
    (hop : o.op = .call { callee := .builtin .append, args := #[s, x], argTypes := #[t, t'] })
    (ht : Tryz.prog.underlying t = some (.slice 157)) (ht' : Tryz.prog.underlying t' = some (.slice 157)) (base : Nat) (v xv : Value) (l m : List Nat) (hs : a.eval s = v) (hx : a.eval x = xv)
    (ho : Own w base v l) (hr : Rd w xv m) (hlen : l.length + m.length ≤ 1000000000) (hbase : base ≤ w.heap.size)
    (hK : ∀ v' w', Own w' base v' (l ++ m) → w.grownBy w' v.ownBlock → (v'.ownBlock = v.ownBlock ∨ v'.ownBlock = some w.heap.size) → wpList Tryz.prog ops Q rest (a.put o.dst v') w') : wpList Tryz.prog ops Q (o :: rest) a w := by
  obtain ⟨v', w', hrun, h2, h3, h4⟩ := run_app t t' o.type ht ht' w base v xv l m ho hr hlen hbase
  refine wpList_plain hg fun K hK' => ?_
  unfold Oper.wp execOp
  simp only [hop, resolve, invoke, builtin, Sem.run_bind, Sem.run_pure, Result.andThen_ok, List.map_toArray, List.map_cons, List.map_nil, hs, hx, hrun]
  exact hK' _ _ (hK v' w' h2 h3 h4)
theorem own_grown {w0 w w' : World} {base : Nat} {v : Value} {l : List Nat} (ho : Own w base v l) (hB : Below w0.heap.size w0 w) (hg : w.grownBy w' v.ownBlock) (hb : w0.heap.size ≤ base) : Below w0.heap.size w0 w' := by
  refine hB.grown hg hB.size fun k hk => ?_
  have := ho.2.lt k hk
  omega
theorem own_lit (w : World) (l : List Nat) (hd : Dig l) (hl : l.length ≤ 1000000) (cs : Array Value) (hcs : cs = (l.map dv).toArray) : Own (w.alloc (.cells cs 157)) w.heap.size (.slice (some ⟨w.heap.size, 0, none⟩) l.length l.length) l := by
  subst hcs
  refine ⟨hd, ?_⟩
  have := World.ownsRow_lit (base := w.heap.size) (e := 157) (size := 1) w (l.map dv).toArray l.length (Nat.le_refl _) (by unfold maxLen; omega) (by simp)
  simpa using this

/-! ### the number that a slice reads as, as a function of the memory: for a loop's measure -/
def rdList (w : World) (b off n : Nat) : List Nat := (List.range n).map fun i => match w.cell? ⟨b, off + i, none⟩ with | some (.int _ k) => k.toNat | _ => 0
def rdVal (w : World) : Value → Nat
  | .slice (some a) n _ => val (rdList w a.block a.off n)
  | _ => 0
theorem rdVal_eq {w : World} {v : Value} {l : List Nat} (h : Rd w v l) : rdVal w v = val l := by
  obtain ⟨a, cap, rfl, h1, h2, h3, h4⟩ := h
  rcases Nat.eq_zero_or_pos l.length with h0 | h0
  · have : l = [] := List.eq_nil_of_length_eq_zero h0
    subst this
    cases a <;> rfl
  · obtain ⟨b, off, rfl, hc⟩ := h4 h0
    show val (rdList w b off l.length) = val l
    congr 1
    apply List.ext_getElem (by simp [rdList])
    intro i h1 h2
    simp only [rdList, List.getElem_map, List.getElem_range, hc i h2]
    rw [List.getD_eq_getElem?_getD, List.getElem?_eq_getElem h2]
    simp
end Go.Proofs.YtlameeijogdckaaGreat
