/-
  Small laws on memory that the walks of this claim share: a cell that is kept by a call, a struct that is stored into a variable of the call's own and returned.
  Printed by a small program (mkmem.py).
-/
import Derived.Test.YtlameeijogdckaaGreatWord
import Derived.Deep.RegionHeld3
import Derived.Deep.RegionWith
import Derived.Laws.IdiomCopy
namespace Go.Proofs.YtlameeijogdckaaGreat
open Go.RowKit

theorem ret_store {P : Program} {fn : Func} {R : Ending → World → Prop} {a : Act} {w : World} (k : Tmp) {v : Value} (_hv : a.tmps.getD k undef = v)
    (hr : (results fn a.tmps).run P w = .ok v w) (hd : a.defers = []) (hR : R (.returned v) w) : bodyPost P fn R .ret a w := ⟨hd, v, hr, hR⟩
/-- A store into a block of the call's own. -/
theorem blw_set {w W : World} {p : Addr} (x : Value) (h : Below w.heap.size w W) (hp : w.heap.size ≤ p.block) : Below w.heap.size w (W.setCell p x) := h.setCell hp x
theorem blw_drew {w W : World} (h : Below w.heap.size w W) : Below w.heap.size w W.drew := h.drew
theorem keepc {W w1 : World} {a : Addr} {v : Value} (hb : Below W.heap.size W w1) (h : W.cell? a = some v) : w1.cell? a = some v := (hb.cell (lt_of_cell h)).trans h
theorem keepf {W w1 : World} {a : Addr} (hb : Below W.heap.size W w1) {v : Value} (h : W.cell? a = some v) (hf : W.frozen? a = false) : w1.frozen? a = false := (hb.frozen (lt_of_cell h)).trans hf
theorem setf {W : World} {a p : Addr} {x : Value} (h : W.frozen? a = false) : (W.setCell p x).frozen? a = false := by
  simpa using h
theorem setn {W : World} {a p : Addr} {x v : Value} (h : W.cell? a = some v) (hne : p ≠ a) : (W.setCell p x).cell? a = some v := by
  rw [World.cell?_setCell_other _ _ _ _ hne]; exact h
theorem setnA {W : World} {a p : Addr} {x v : Value} (hne : p ≠ a) (h : W.cell? a = some v) : (W.setCell p x).cell? a = some v := setn h hne
theorem cellKeep {W W2 : World} {a : Addr} {v : Value} (hb : Below W.heap.size W W2) (h : W.cell? a = some v) : W2.cell? a = some v := keepc hb h
theorem cellAl {W : World} {a : Addr} {v : Value} {o : Obj} (h : W.cell? a = some v) : (W.alloc o).cell? a = some v := by
  rw [World.cell?_alloc_lt _ _ _ (lt_of_cell h)]; exact h
theorem cellDr {W : World} {a : Addr} {v : Value} (h : W.cell? a = some v) : W.drew.cell? a = some v := h
theorem cellDrN {W : World} {a : Addr} {v : Value} {j : Nat} (h : W.cell? a = some v) : (W.drewN j).cell? a = some v := h
/-- A cell that may be stored into. -/
def Fz (W : World) (a : Addr) : Prop := (∃ u, W.cell? a = some u) ∧ W.frozen? a = false
theorem Fz.out {W : World} {a : Addr} (h : Fz W a) : W.frozen? a = false := h.2
theorem Fz.mk' {W : World} {a : Addr} {v : Value} (h : W.cell? a = some v) (hf : W.frozen? a = false) : Fz W a := ⟨⟨v, h⟩, hf⟩
theorem Fz.keep {W W2 : World} {a : Addr} (hb : Below W.heap.size W W2) (h : Fz W a) : Fz W2 a := by
  obtain ⟨⟨v, hv⟩, hf⟩ := h
  exact ⟨⟨v, keepc hb hv⟩, keepf hb hv hf⟩
theorem Fz.al {W : World} {a : Addr} {o : Obj} (h : Fz W a) : Fz (W.alloc o) a := h.keep (blw_one _ _)
theorem Fz.dr {W : World} {a : Addr} (h : Fz W a) : Fz W.drew a := h
theorem Fz.drN {W : World} {a : Addr} {j : Nat} (h : Fz W a) : Fz (W.drewN j) a := h
theorem Fz.set {W : World} {a p : Addr} {x : Value} (h : Fz W a) : Fz (W.setCell p x) a := by
  obtain ⟨⟨v, hv⟩, hf⟩ := h
  obtain ⟨v', hv'⟩ := cell?_setCell_some (w := W) (p := p) (x := x) (q := a) (v := v) hv
  exact ⟨⟨v', hv'⟩, setf hf⟩
theorem setc {W : World} {a p : Addr} {x v : Value} (h : W.cell? a = some v) (hne : a.block < p.block) : (W.setCell p x).cell? a = some v :=
  setn h (fun e => by subst e; omega)

/-! ### what a cell holds, by its kind -/
def cellB (w : World) (a : Addr) : Bool := match w.cell? a with | some (.bool b) => b | _ => false
def cellA (w : World) (a : Addr) : Option Addr := match w.cell? a with | some (.slice x _ _) => x | _ => none
def cellL (w : World) (a : Addr) : Nat := match w.cell? a with | some (.slice _ x _) => x | _ => 0
def cellC (w : World) (a : Addr) : Nat := match w.cell? a with | some (.slice _ _ x) => x | _ => 0
def cellI (w : World) (a : Addr) : Int := match w.cell? a with | some (.int _ x) => x | _ => 0
def cellP (w : World) (a : Addr) : Option Addr := match w.cell? a with | some (.pointer x) => x | _ => none
theorem hasB {w : World} {a : Addr} {b : Bool} (h : w.cell? a = some (.bool b)) : w.cell? a = some (.bool (cellB w a)) := by unfold cellB; rw [h]
theorem keepB {W w1 : World} {a : Addr} (hb : Below W.heap.size W w1) {b : Bool} (h : W.cell? a = some (.bool b)) : w1.cell? a = some (.bool (cellB w1 a)) := hasB (keepc hb h)
theorem setBn {W : World} {a p : Addr} {y : Value} {b : Bool} (hne : p ≠ a) (h : W.cell? a = some (.bool b)) : (W.setCell p y).cell? a = some (.bool (cellB (W.setCell p y) a)) := hasB (setn h hne)
theorem setBs {W : World} {p : Addr} {u : Value} {b : Bool} (h : W.cell? p = some u) : (W.setCell p (.bool b)).cell? p = some (.bool (cellB (W.setCell p (.bool b)) p)) := hasB (World.cell?_setCell_same _ _ _ h)
theorem hasS {w : World} {a : Addr} {x : Option Addr} {l c : Nat} (h : w.cell? a = some (.slice x l c)) : w.cell? a = some (.slice (cellA w a) (cellL w a) (cellC w a)) := by unfold cellA cellL cellC; rw [h]
theorem keepS {W w1 : World} {a : Addr} (hb : Below W.heap.size W w1) {x : Option Addr} {l c : Nat} (h : W.cell? a = some (.slice x l c)) : w1.cell? a = some (.slice (cellA w1 a) (cellL w1 a) (cellC w1 a)) := hasS (keepc hb h)
theorem setSn {W : World} {a p : Addr} {y : Value} {x : Option Addr} {l c : Nat} (hne : p ≠ a) (h : W.cell? a = some (.slice x l c)) : (W.setCell p y).cell? a = some (.slice (cellA (W.setCell p y) a) (cellL (W.setCell p y) a) (cellC (W.setCell p y) a)) := hasS (setn h hne)
theorem setSs {W : World} {p : Addr} {u : Value} {x : Option Addr} {l c : Nat} (h : W.cell? p = some u) : (W.setCell p (.slice x l c)).cell? p = some (.slice (cellA (W.setCell p (.slice x l c)) p) (cellL (W.setCell p (.slice x l c)) p) (cellC (W.setCell p (.slice x l c)) p)) := hasS (World.cell?_setCell_same _ _ _ h)
theorem hasI {w : World} {a : Addr} {n : Int} (h : w.cell? a = some (.int .i64 n)) : w.cell? a = some (.int .i64 (cellI w a)) := by unfold cellI; rw [h]
theorem keepI {W w1 : World} {a : Addr} (hb : Below W.heap.size W w1) {n : Int} (h : W.cell? a = some (.int .i64 n)) : w1.cell? a = some (.int .i64 (cellI w1 a)) := hasI (keepc hb h)
theorem setIn {W : World} {a p : Addr} {y : Value} {n : Int} (hne : p ≠ a) (h : W.cell? a = some (.int .i64 n)) : (W.setCell p y).cell? a = some (.int .i64 (cellI (W.setCell p y) a)) := hasI (setn h hne)
theorem setIs {W : World} {p : Addr} {u : Value} {n : Int} (h : W.cell? p = some u) : (W.setCell p (.int .i64 n)).cell? p = some (.int .i64 (cellI (W.setCell p (.int .i64 n)) p)) := hasI (World.cell?_setCell_same _ _ _ h)
theorem hasU {w : World} {a : Addr} {n : Int} (h : w.cell? a = some (.int .u32 n)) : w.cell? a = some (.int .u32 (cellI w a)) := by unfold cellI; rw [h]
theorem keepU {W w1 : World} {a : Addr} (hb : Below W.heap.size W w1) {n : Int} (h : W.cell? a = some (.int .u32 n)) : w1.cell? a = some (.int .u32 (cellI w1 a)) := hasU (keepc hb h)
theorem setUn {W : World} {a p : Addr} {y : Value} {n : Int} (hne : p ≠ a) (h : W.cell? a = some (.int .u32 n)) : (W.setCell p y).cell? a = some (.int .u32 (cellI (W.setCell p y) a)) := hasU (setn h hne)
theorem setUs {W : World} {p : Addr} {u : Value} {n : Int} (h : W.cell? p = some u) : (W.setCell p (.int .u32 n)).cell? p = some (.int .u32 (cellI (W.setCell p (.int .u32 n)) p)) := hasU (World.cell?_setCell_same _ _ _ h)
theorem hasP {w : World} {a : Addr} {x : Option Addr} (h : w.cell? a = some (.pointer x)) : w.cell? a = some (.pointer (cellP w a)) := by unfold cellP; rw [h]
theorem keepP {W w1 : World} {a : Addr} (hb : Below W.heap.size W w1) {x : Option Addr} (h : W.cell? a = some (.pointer x)) : w1.cell? a = some (.pointer (cellP w1 a)) := hasP (keepc hb h)
theorem setPn {W : World} {a p : Addr} {y : Value} {x : Option Addr} (hne : p ≠ a) (h : W.cell? a = some (.pointer x)) : (W.setCell p y).cell? a = some (.pointer (cellP (W.setCell p y) a)) := hasP (setn h hne)
theorem setPs {W : World} {p : Addr} {u : Value} {x : Option Addr} (h : W.cell? p = some u) : (W.setCell p (.pointer x)).cell? p = some (.pointer (cellP (W.setCell p (.pointer x)) p)) := hasP (World.cell?_setCell_same _ _ _ h)
theorem back_set {W : World} {p q : Addr} {x u : Value} (h : (W.setCell p x).cell? q = some u) : ∃ v, W.cell? q = some v := by
  by_cases e : p = q
  · subst e
    unfold World.cell? at h ⊢
    simp only [World.setCell, Array.getElem?_modify, ↓reduceIte] at h
    cases hh : W.heap[p.block]? with
    | none => simp [hh] at h
    | some o =>
      cases o with
      | cells c t f =>
        simp only [hh, Option.map_some] at h
        cases hs : p.spot.isSome with
        | true => simp [hs] at h
        | false =>
          simp only [hs] at h ⊢
          have hlt : p.off < c.size := by
            rcases Nat.lt_or_ge p.off c.size with h' | h'
            · exact h'
            · simp [h'] at h
          exact ⟨c[p.off], by simp [hlt]⟩
      | _ => simp [hh] at h
  · rw [World.cell?_setCell_other _ _ _ _ e] at h
    exact ⟨u, h⟩
theorem back_sets {b : Nat} : ∀ (vs : List Value) (o : Nat) (W : World) (q : Addr) (u : Value), (W.setCells b o vs).cell? q = some u → ∃ v, W.cell? q = some v
  | [], _, _, _, u, h => ⟨u, h⟩
  | v :: r, o, W, q, u, h => by
    obtain ⟨v', h'⟩ := back_sets r (o + 1) _ q u h
    exact back_set h'
/-- The cells of a struct that has been stored. -/
theorem stored_cells {b : Nat} {W w1 : World} (vs : List Value) (hW : W = w1.setCells b 0 vs) (hh : ∀ j, j < vs.length → ∃ u, W.cell? ⟨b, j, none⟩ = some u) :
    ∀ j (hj : j < vs.length), W.cell? ⟨b, j, none⟩ = some vs[j] := by
  subst hW
  intro j hj
  have := World.cell?_setCells_in b vs 0 w1 (fun j hj => by
    obtain ⟨u, hu⟩ := hh j hj
    obtain ⟨v, hv⟩ := back_sets vs 0 w1 _ _ hu
    rw [Nat.zero_add, hv]; rfl) j hj
  rw [Nat.zero_add] at this
  exact this
theorem loadVar_at {P : Program} (W : World) (b : Nat) (ty : TypeId) (vs : List Value) (d : TypeDesc) (hu : P.underlying ty = some d) (hd : (match d with | .struct _ | .array _ _ => true | _ => false) = true)
    (hi : (P.info? ty).map (·.size) = some vs.length) (hc : ∀ j (hj : j < vs.length), W.cell? ⟨b, j, none⟩ = some vs[j]) : (loadVar ty ⟨b, 0, none⟩).run P W = .ok (.agg vs.toArray) W := by
  have hl : (loadCells ⟨b, 0, none⟩ vs.length).run P W = .ok vs.toArray W :=
    run_loadCells_list (P := P) W ⟨b, 0, none⟩ vs (fun j v hv => by
      have hadd : (⟨b, 0, none⟩ : Addr).add j = ⟨b, j, none⟩ := by unfold Addr.add; split <;> simp_all
      rw [hadd]
      have hj : j < vs.length := by
        rcases Nat.lt_or_ge j vs.length with h | h
        · exact h
        · rw [List.getElem?_eq_none h] at hv; cases hv
      rw [hc j hj, ← hv, List.getElem?_eq_getElem hj])
  cases hq : P.info? ty with
  | none => simp [hq] at hi
  | some i =>
    have hs : i.size = vs.length := by simpa [hq] using hi
    have hagg : (isAgg ty).run P W = .ok true W := by
      unfold isAgg
      rw [Sem.run_bind, run_underlying hu W]
      cases d <;> simp_all
    simp [loadVar, hagg, sizeOf, typeInfo, hq, hs, hl]
/-- The end of a walk whose result is a struct that has just been stored into the result's variable. -/
theorem ret_cells {P : Program} {fn : Func} {R : Ending → World → Prop} {a : Act} {W w1 : World} {b : Nat} (vs : List Value) {p : Tmp} {ty : TypeId} {d : TypeDesc} (hr : fn.results = #[.cell p ty])
    (hu : P.underlying ty = some d) (hd : (match d with | .struct _ | .array _ _ => true | _ => false) = true) (hi : (P.info? ty).map (·.size) = some vs.length)
    (hp : a.tmps.getD p undef = .pointer (some ⟨b, 0, none⟩)) (hW : W = w1.setCells b 0 vs) (hh : ∀ j, j < vs.length → ∃ u, W.cell? ⟨b, j, none⟩ = some u)
    (hdf : a.defers = []) (hR : R (.returned (.agg vs.toArray)) W) : bodyPost P fn R .ret a W := by
  refine ⟨hdf, _, ?_, hR⟩
  have hp' : a.tmps[p]?.getD undef = .pointer (some ⟨b, 0, none⟩) := by simpa using hp
  simp [results, hr, hp', asAddr, loadVar_at W b ty vs d hu hd hi (stored_cells vs hW hh)]
theorem lt_two {P : Nat → Prop} (h0 : P 0) (h1 : P 1) : ∀ j, j < 2 → P j := by
  intro j hj
  match j, hj with
  | 0, _ => exact h0
  | 1, _ => exact h1
theorem lt_three {P : Nat → Prop} (h0 : P 0) (h1 : P 1) (h2 : P 2) : ∀ j, j < 3 → P j := by
  intro j hj
  match j, hj with
  | 0, _ => exact h0
  | 1, _ => exact h1
  | 2, _ => exact h2
theorem lt_six {P : Nat → Prop} (h0 : P 0) (h1 : P 1) (h2 : P 2) (h3 : P 3) (h4 : P 4) (h5 : P 5) : ∀ j, j < 6 → P j := by
  intro j hj
  match j, hj with
  | 0, _ => exact h0
  | 1, _ => exact h1
  | 2, _ => exact h2
  | 3, _ => exact h3
  | 4, _ => exact h4
  | 5, _ => exact h5
theorem lt_eight {P : Nat → Prop} (h0 : P 0) (h1 : P 1) (h2 : P 2) (h3 : P 3) (h4 : P 4) (h5 : P 5) (h6 : P 6) (h7 : P 7) : ∀ j, j < 8 → P j := by
  intro j hj
  match j, hj with
  | 0, _ => exact h0
  | 1, _ => exact h1
  | 2, _ => exact h2
  | 3, _ => exact h3
  | 4, _ => exact h4
  | 5, _ => exact h5
  | 6, _ => exact h6
  | 7, _ => exact h7
theorem ret_cells2 {P : Program} {fn : Func} {R : Ending → World → Prop} {a : Act} {w1 : World} {b : Nat} {x0 x1 : Value} {p : Tmp} {ty : TypeId} {d : TypeDesc} (hr : fn.results = #[.cell p ty])
    (hu : P.underlying ty = some d) (hd : (match d with | .struct _ | .array _ _ => true | _ => false) = true) (hi : (P.info? ty).map (·.size) = some 2)
    (hp : a.tmps.getD p undef = .pointer (some ⟨b, 0, none⟩)) (h0 : ∃ u, ((w1.setCell ⟨b, 0, none⟩ x0).setCell ⟨b, 1, none⟩ x1).cell? ⟨b, 0, none⟩ = some u) (h1 : ∃ u, ((w1.setCell ⟨b, 0, none⟩ x0).setCell ⟨b, 1, none⟩ x1).cell? ⟨b, 1, none⟩ = some u)
    (hdf : a.defers = []) (hR : R (.returned (.agg #[x0, x1])) ((w1.setCell ⟨b, 0, none⟩ x0).setCell ⟨b, 1, none⟩ x1)) : bodyPost P fn R .ret a ((w1.setCell ⟨b, 0, none⟩ x0).setCell ⟨b, 1, none⟩ x1) :=
  ret_cells (w1 := w1) [x0, x1] hr hu hd hi hp rfl (lt_two h0 h1) hdf hR
theorem ret_cells3 {P : Program} {fn : Func} {R : Ending → World → Prop} {a : Act} {w1 : World} {b : Nat} {x0 x1 x2 : Value} {p : Tmp} {ty : TypeId} {d : TypeDesc} (hr : fn.results = #[.cell p ty])
    (hu : P.underlying ty = some d) (hd : (match d with | .struct _ | .array _ _ => true | _ => false) = true) (hi : (P.info? ty).map (·.size) = some 3)
    (hp : a.tmps.getD p undef = .pointer (some ⟨b, 0, none⟩)) (h0 : ∃ u, (((w1.setCell ⟨b, 0, none⟩ x0).setCell ⟨b, 1, none⟩ x1).setCell ⟨b, 2, none⟩ x2).cell? ⟨b, 0, none⟩ = some u) (h1 : ∃ u, (((w1.setCell ⟨b, 0, none⟩ x0).setCell ⟨b, 1, none⟩ x1).setCell ⟨b, 2, none⟩ x2).cell? ⟨b, 1, none⟩ = some u) (h2 : ∃ u, (((w1.setCell ⟨b, 0, none⟩ x0).setCell ⟨b, 1, none⟩ x1).setCell ⟨b, 2, none⟩ x2).cell? ⟨b, 2, none⟩ = some u)
    (hdf : a.defers = []) (hR : R (.returned (.agg #[x0, x1, x2])) (((w1.setCell ⟨b, 0, none⟩ x0).setCell ⟨b, 1, none⟩ x1).setCell ⟨b, 2, none⟩ x2)) : bodyPost P fn R .ret a (((w1.setCell ⟨b, 0, none⟩ x0).setCell ⟨b, 1, none⟩ x1).setCell ⟨b, 2, none⟩ x2) :=
  ret_cells (w1 := w1) [x0, x1, x2] hr hu hd hi hp rfl (lt_three h0 h1 h2) hdf hR
theorem ret_cells6 {P : Program} {fn : Func} {R : Ending → World → Prop} {a : Act} {w1 : World} {b : Nat} {x0 x1 x2 x3 x4 x5 : Value} {p : Tmp} {ty : TypeId} {d : TypeDesc} (hr : fn.results = #[.cell p ty])
    (hu : P.underlying ty = some d) (hd : (match d with | .struct _ | .array _ _ => true | _ => false) = true) (hi : (P.info? ty).map (·.size) = some 6)
    (hp : a.tmps.getD p undef = .pointer (some ⟨b, 0, none⟩)) (h0 : ∃ u, ((((((w1.setCell ⟨b, 0, none⟩ x0).setCell ⟨b, 1, none⟩ x1).setCell ⟨b, 2, none⟩ x2).setCell ⟨b, 3, none⟩ x3).setCell ⟨b, 4, none⟩ x4).setCell ⟨b, 5, none⟩ x5).cell? ⟨b, 0, none⟩ = some u) (h1 : ∃ u, ((((((w1.setCell ⟨b, 0, none⟩ x0).setCell ⟨b, 1, none⟩ x1).setCell ⟨b, 2, none⟩ x2).setCell ⟨b, 3, none⟩ x3).setCell ⟨b, 4, none⟩ x4).setCell ⟨b, 5, none⟩ x5).cell? ⟨b, 1, none⟩ = some u) (h2 : ∃ u, ((((((w1.setCell ⟨b, 0, none⟩ x0).setCell ⟨b, 1, none⟩ x1).setCell ⟨b, 2, none⟩ x2).setCell ⟨b, 3, none⟩ x3).setCell ⟨b, 4, none⟩ x4).setCell ⟨b, 5, none⟩ x5).cell? ⟨b, 2, none⟩ = some u) (h3 : ∃ u, ((((((w1.setCell ⟨b, 0, none⟩ x0).setCell ⟨b, 1, none⟩ x1).setCell ⟨b, 2, none⟩ x2).setCell ⟨b, 3, none⟩ x3).setCell ⟨b, 4, none⟩ x4).setCell ⟨b, 5, none⟩ x5).cell? ⟨b, 3, none⟩ = some u) (h4 : ∃ u, ((((((w1.setCell ⟨b, 0, none⟩ x0).setCell ⟨b, 1, none⟩ x1).setCell ⟨b, 2, none⟩ x2).setCell ⟨b, 3, none⟩ x3).setCell ⟨b, 4, none⟩ x4).setCell ⟨b, 5, none⟩ x5).cell? ⟨b, 4, none⟩ = some u) (h5 : ∃ u, ((((((w1.setCell ⟨b, 0, none⟩ x0).setCell ⟨b, 1, none⟩ x1).setCell ⟨b, 2, none⟩ x2).setCell ⟨b, 3, none⟩ x3).setCell ⟨b, 4, none⟩ x4).setCell ⟨b, 5, none⟩ x5).cell? ⟨b, 5, none⟩ = some u)
    (hdf : a.defers = []) (hR : R (.returned (.agg #[x0, x1, x2, x3, x4, x5])) ((((((w1.setCell ⟨b, 0, none⟩ x0).setCell ⟨b, 1, none⟩ x1).setCell ⟨b, 2, none⟩ x2).setCell ⟨b, 3, none⟩ x3).setCell ⟨b, 4, none⟩ x4).setCell ⟨b, 5, none⟩ x5)) : bodyPost P fn R .ret a ((((((w1.setCell ⟨b, 0, none⟩ x0).setCell ⟨b, 1, none⟩ x1).setCell ⟨b, 2, none⟩ x2).setCell ⟨b, 3, none⟩ x3).setCell ⟨b, 4, none⟩ x4).setCell ⟨b, 5, none⟩ x5) :=
  ret_cells (w1 := w1) [x0, x1, x2, x3, x4, x5] hr hu hd hi hp rfl (lt_six h0 h1 h2 h3 h4 h5) hdf hR
theorem ret_cells8 {P : Program} {fn : Func} {R : Ending → World → Prop} {a : Act} {w1 : World} {b : Nat} {x0 x1 x2 x3 x4 x5 x6 x7 : Value} {p : Tmp} {ty : TypeId} {d : TypeDesc} (hr : fn.results = #[.cell p ty])
    (hu : P.underlying ty = some d) (hd : (match d with | .struct _ | .array _ _ => true | _ => false) = true) (hi : (P.info? ty).map (·.size) = some 8)
    (hp : a.tmps.getD p undef = .pointer (some ⟨b, 0, none⟩)) (h0 : ∃ u, ((((((((w1.setCell ⟨b, 0, none⟩ x0).setCell ⟨b, 1, none⟩ x1).setCell ⟨b, 2, none⟩ x2).setCell ⟨b, 3, none⟩ x3).setCell ⟨b, 4, none⟩ x4).setCell ⟨b, 5, none⟩ x5).setCell ⟨b, 6, none⟩ x6).setCell ⟨b, 7, none⟩ x7).cell? ⟨b, 0, none⟩ = some u) (h1 : ∃ u, ((((((((w1.setCell ⟨b, 0, none⟩ x0).setCell ⟨b, 1, none⟩ x1).setCell ⟨b, 2, none⟩ x2).setCell ⟨b, 3, none⟩ x3).setCell ⟨b, 4, none⟩ x4).setCell ⟨b, 5, none⟩ x5).setCell ⟨b, 6, none⟩ x6).setCell ⟨b, 7, none⟩ x7).cell? ⟨b, 1, none⟩ = some u) (h2 : ∃ u, ((((((((w1.setCell ⟨b, 0, none⟩ x0).setCell ⟨b, 1, none⟩ x1).setCell ⟨b, 2, none⟩ x2).setCell ⟨b, 3, none⟩ x3).setCell ⟨b, 4, none⟩ x4).setCell ⟨b, 5, none⟩ x5).setCell ⟨b, 6, none⟩ x6).setCell ⟨b, 7, none⟩ x7).cell? ⟨b, 2, none⟩ = some u) (h3 : ∃ u, ((((((((w1.setCell ⟨b, 0, none⟩ x0).setCell ⟨b, 1, none⟩ x1).setCell ⟨b, 2, none⟩ x2).setCell ⟨b, 3, none⟩ x3).setCell ⟨b, 4, none⟩ x4).setCell ⟨b, 5, none⟩ x5).setCell ⟨b, 6, none⟩ x6).setCell ⟨b, 7, none⟩ x7).cell? ⟨b, 3, none⟩ = some u) (h4 : ∃ u, ((((((((w1.setCell ⟨b, 0, none⟩ x0).setCell ⟨b, 1, none⟩ x1).setCell ⟨b, 2, none⟩ x2).setCell ⟨b, 3, none⟩ x3).setCell ⟨b, 4, none⟩ x4).setCell ⟨b, 5, none⟩ x5).setCell ⟨b, 6, none⟩ x6).setCell ⟨b, 7, none⟩ x7).cell? ⟨b, 4, none⟩ = some u) (h5 : ∃ u, ((((((((w1.setCell ⟨b, 0, none⟩ x0).setCell ⟨b, 1, none⟩ x1).setCell ⟨b, 2, none⟩ x2).setCell ⟨b, 3, none⟩ x3).setCell ⟨b, 4, none⟩ x4).setCell ⟨b, 5, none⟩ x5).setCell ⟨b, 6, none⟩ x6).setCell ⟨b, 7, none⟩ x7).cell? ⟨b, 5, none⟩ = some u) (h6 : ∃ u, ((((((((w1.setCell ⟨b, 0, none⟩ x0).setCell ⟨b, 1, none⟩ x1).setCell ⟨b, 2, none⟩ x2).setCell ⟨b, 3, none⟩ x3).setCell ⟨b, 4, none⟩ x4).setCell ⟨b, 5, none⟩ x5).setCell ⟨b, 6, none⟩ x6).setCell ⟨b, 7, none⟩ x7).cell? ⟨b, 6, none⟩ = some u) (h7 : ∃ u, ((((((((w1.setCell ⟨b, 0, none⟩ x0).setCell ⟨b, 1, none⟩ x1).setCell ⟨b, 2, none⟩ x2).setCell ⟨b, 3, none⟩ x3).setCell ⟨b, 4, none⟩ x4).setCell ⟨b, 5, none⟩ x5).setCell ⟨b, 6, none⟩ x6).setCell ⟨b, 7, none⟩ x7).cell? ⟨b, 7, none⟩ = some u)
    (hdf : a.defers = []) (hR : R (.returned (.agg #[x0, x1, x2, x3, x4, x5, x6, x7])) ((((((((w1.setCell ⟨b, 0, none⟩ x0).setCell ⟨b, 1, none⟩ x1).setCell ⟨b, 2, none⟩ x2).setCell ⟨b, 3, none⟩ x3).setCell ⟨b, 4, none⟩ x4).setCell ⟨b, 5, none⟩ x5).setCell ⟨b, 6, none⟩ x6).setCell ⟨b, 7, none⟩ x7)) : bodyPost P fn R .ret a ((((((((w1.setCell ⟨b, 0, none⟩ x0).setCell ⟨b, 1, none⟩ x1).setCell ⟨b, 2, none⟩ x2).setCell ⟨b, 3, none⟩ x3).setCell ⟨b, 4, none⟩ x4).setCell ⟨b, 5, none⟩ x5).setCell ⟨b, 6, none⟩ x6).setCell ⟨b, 7, none⟩ x7) :=
  ret_cells (w1 := w1) [x0, x1, x2, x3, x4, x5, x6, x7] hr hu hd hi hp rfl (lt_eight h0 h1 h2 h3 h4 h5 h6 h7) hdf hR
theorem setsame {W : World} {p : Addr} {u x : Value} (h : W.cell? p = some u) : (W.setCell p x).cell? p = some x := World.cell?_setCell_same _ _ _ h
theorem loads2 {P : Program} {W : World} {b : Nat} {ty : TypeId} {d : TypeDesc} {x0 x1 : Value} (hu : P.underlying ty = some d) (hd : (match d with | .struct _ | .array _ _ => true | _ => false) = true) (hi : (P.info? ty).map (·.size) = some 2)
    (h0 : W.cell? ⟨b, 0, none⟩ = some x0) (h1 : W.cell? ⟨b, 1, none⟩ = some x1) : (loadVar ty ⟨b, 0, none⟩).run P W = .ok (.agg #[x0, x1]) W :=
  loadVar_at W b ty [x0, x1] d hu hd hi (fun j hj => lt_two (P := fun j => ∀ hj : j < 2, W.cell? ⟨b, j, none⟩ = some ([x0, x1][j]'hj)) (fun _ => h0) (fun _ => h1) j hj hj)
theorem loads3 {P : Program} {W : World} {b : Nat} {ty : TypeId} {d : TypeDesc} {x0 x1 x2 : Value} (hu : P.underlying ty = some d) (hd : (match d with | .struct _ | .array _ _ => true | _ => false) = true) (hi : (P.info? ty).map (·.size) = some 3)
    (h0 : W.cell? ⟨b, 0, none⟩ = some x0) (h1 : W.cell? ⟨b, 1, none⟩ = some x1) (h2 : W.cell? ⟨b, 2, none⟩ = some x2) : (loadVar ty ⟨b, 0, none⟩).run P W = .ok (.agg #[x0, x1, x2]) W :=
  loadVar_at W b ty [x0, x1, x2] d hu hd hi (fun j hj => lt_three (P := fun j => ∀ hj : j < 3, W.cell? ⟨b, j, none⟩ = some ([x0, x1, x2][j]'hj)) (fun _ => h0) (fun _ => h1) (fun _ => h2) j hj hj)
theorem loads6 {P : Program} {W : World} {b : Nat} {ty : TypeId} {d : TypeDesc} {x0 x1 x2 x3 x4 x5 : Value} (hu : P.underlying ty = some d) (hd : (match d with | .struct _ | .array _ _ => true | _ => false) = true) (hi : (P.info? ty).map (·.size) = some 6)
    (h0 : W.cell? ⟨b, 0, none⟩ = some x0) (h1 : W.cell? ⟨b, 1, none⟩ = some x1) (h2 : W.cell? ⟨b, 2, none⟩ = some x2) (h3 : W.cell? ⟨b, 3, none⟩ = some x3) (h4 : W.cell? ⟨b, 4, none⟩ = some x4) (h5 : W.cell? ⟨b, 5, none⟩ = some x5) : (loadVar ty ⟨b, 0, none⟩).run P W = .ok (.agg #[x0, x1, x2, x3, x4, x5]) W :=
  loadVar_at W b ty [x0, x1, x2, x3, x4, x5] d hu hd hi (fun j hj => lt_six (P := fun j => ∀ hj : j < 6, W.cell? ⟨b, j, none⟩ = some ([x0, x1, x2, x3, x4, x5][j]'hj)) (fun _ => h0) (fun _ => h1) (fun _ => h2) (fun _ => h3) (fun _ => h4) (fun _ => h5) j hj hj)
theorem loads8 {P : Program} {W : World} {b : Nat} {ty : TypeId} {d : TypeDesc} {x0 x1 x2 x3 x4 x5 x6 x7 : Value} (hu : P.underlying ty = some d) (hd : (match d with | .struct _ | .array _ _ => true | _ => false) = true) (hi : (P.info? ty).map (·.size) = some 8)
    (h0 : W.cell? ⟨b, 0, none⟩ = some x0) (h1 : W.cell? ⟨b, 1, none⟩ = some x1) (h2 : W.cell? ⟨b, 2, none⟩ = some x2) (h3 : W.cell? ⟨b, 3, none⟩ = some x3) (h4 : W.cell? ⟨b, 4, none⟩ = some x4) (h5 : W.cell? ⟨b, 5, none⟩ = some x5) (h6 : W.cell? ⟨b, 6, none⟩ = some x6) (h7 : W.cell? ⟨b, 7, none⟩ = some x7) : (loadVar ty ⟨b, 0, none⟩).run P W = .ok (.agg #[x0, x1, x2, x3, x4, x5, x6, x7]) W :=
  loadVar_at W b ty [x0, x1, x2, x3, x4, x5, x6, x7] d hu hd hi (fun j hj => lt_eight (P := fun j => ∀ hj : j < 8, W.cell? ⟨b, j, none⟩ = some ([x0, x1, x2, x3, x4, x5, x6, x7][j]'hj)) (fun _ => h0) (fun _ => h1) (fun _ => h2) (fun _ => h3) (fun _ => h4) (fun _ => h5) (fun _ => h6) (fun _ => h7) j hj hj)
/-- The end of a walk: the results in order; a struct by the law that loads it. -/
theorem ret_cct {P : Program} {fn : Func} {R : Ending → World → Prop} {a : Act} {W : World} {p q u : Tmp} {ty ty2 : TypeId} {b1 b2 : Nat} {v1 v2 : Value} (hr : fn.results = #[.cell p ty, .cell q ty2, .tmp u])
    (hp : a.tmps.getD p undef = .pointer (some ⟨b1, 0, none⟩)) (hq : a.tmps.getD q undef = .pointer (some ⟨b2, 0, none⟩)) (h1 : (loadVar ty ⟨b1, 0, none⟩).run P W = .ok v1 W) (h2 : (loadVar ty2 ⟨b2, 0, none⟩).run P W = .ok v2 W)
    (hdf : a.defers = []) (hR : R (.returned (.tuple #[v1, v2, a.tmps.getD u undef])) W) : bodyPost P fn R .ret a W := by
  refine ⟨hdf, _, ?_, hR⟩
  have hp' : a.tmps[p]?.getD undef = .pointer (some ⟨b1, 0, none⟩) := by simpa using hp
  have hq' : a.tmps[q]?.getD undef = .pointer (some ⟨b2, 0, none⟩) := by simpa using hq
  simp [results, hr, hp', hq', asAddr, h1, h2]
theorem ret_ct {P : Program} {fn : Func} {R : Ending → World → Prop} {a : Act} {W : World} {p u : Tmp} {ty : TypeId} {b1 : Nat} {v1 : Value} (hr : fn.results = #[.cell p ty, .tmp u])
    (hp : a.tmps.getD p undef = .pointer (some ⟨b1, 0, none⟩)) (h1 : (loadVar ty ⟨b1, 0, none⟩).run P W = .ok v1 W)
    (hdf : a.defers = []) (hR : R (.returned (.tuple #[v1, a.tmps.getD u undef])) W) : bodyPost P fn R .ret a W := by
  refine ⟨hdf, _, ?_, hR⟩
  have hp' : a.tmps[p]?.getD undef = .pointer (some ⟨b1, 0, none⟩) := by simpa using hp
  simp [results, hr, hp', asAddr, h1]
theorem ret_c {P : Program} {fn : Func} {R : Ending → World → Prop} {a : Act} {W : World} {p : Tmp} {ty : TypeId} {b1 : Nat} {v1 : Value} (hr : fn.results = #[.cell p ty])
    (hp : a.tmps.getD p undef = .pointer (some ⟨b1, 0, none⟩)) (h1 : (loadVar ty ⟨b1, 0, none⟩).run P W = .ok v1 W)
    (hdf : a.defers = []) (hR : R (.returned v1) W) : bodyPost P fn R .ret a W := by
  refine ⟨hdf, _, ?_, hR⟩
  have hp' : a.tmps[p]?.getD undef = .pointer (some ⟨b1, 0, none⟩) := by simpa using hp
  simp [results, hr, hp', asAddr, h1]

/-! ### readings are kept -/
/-- No digit. -/
def isDigit32 : Value → Bool
  | .int .u32 _ => true
  | _ => false
theorem Rd.set {W : World} {v : Value} {l : List Nat} (h : Rd W v l) (p : Addr) (x : Value) {u : Value} (hc : W.cell? p = some u) (hu : isDigit32 u = false) : Rd (W.setCell p x) v l := by
  obtain ⟨a, cap, rfl, h1, h2, h3, h4⟩ := h
  refine ⟨a, cap, rfl, h1, h2, h3, fun h0 => ?_⟩
  obtain ⟨b, off, rfl, hcell⟩ := h4 h0
  refine ⟨b, off, rfl, fun i hi => ?_⟩
  rw [World.cell?_setCell_other _ _ _ _ (fun e => ?_)]
  · exact hcell i hi
  · subst e
    rw [hcell i hi] at hc
    injection hc with hc
    subst hc
    simp [isDigit32] at hu
theorem Nn.set {W : World} {v : Value} {n k : Nat} (h : Nn W v n k) (p : Addr) (x : Value) {u : Value} (hc : W.cell? p = some u) (hu : isDigit32 u = false) : Nn (W.setCell p x) v n k := by
  exact ⟨h.1.set p x hc hu, h.2⟩
theorem Nn.set2 {W : World} {v : Value} {n k : Nat} {p : Addr} {x u : Value} (hc : W.cell? p = some u) (hu : isDigit32 u = false) (h : Nn W v n k) : Nn (W.setCell p x) v n k := h.set p x hc hu
theorem Nn.keep2 {W W2 : World} {v : Value} {n k : Nat} (hb : Below W.heap.size W W2) (h : Nn W v n k) : Nn W2 v n k := h.keep hb
theorem Nn.al {W : World} {v : Value} {n k : Nat} {o : Obj} (h : Nn W v n k) : Nn (W.alloc o) v n k := h.keep (blw_one _ _)
theorem Nn.dr {W : World} {v : Value} {n k : Nat} (h : Nn W v n k) : Nn W.drew v n k := h.keep (blw_drew (Below.refl _ _))
theorem Nn.drN {W : World} {v : Value} {n k : Nat} {j : Nat} (h : Nn W v n k) : Nn (W.drewN j) v n k := h.keep (blw_drewN (Below.refl _ _) j)
theorem Rr.set {W : World} {v : Value} {n k : Nat} (h : Rr W v n k) (p : Addr) (x : Value) {u : Value} (hc : W.cell? p = some u) (hu : isDigit32 u = false) : Rr (W.setCell p x) v n k := by
  obtain ⟨l, h1, h2⟩ := h
  exact ⟨l, h1.set p x hc hu, h2⟩
theorem Rr.set2 {W : World} {v : Value} {n k : Nat} {p : Addr} {x u : Value} (hc : W.cell? p = some u) (hu : isDigit32 u = false) (h : Rr W v n k) : Rr (W.setCell p x) v n k := h.set p x hc hu
theorem Rr.keep2 {W W2 : World} {v : Value} {n k : Nat} (hb : Below W.heap.size W W2) (h : Rr W v n k) : Rr W2 v n k := h.keep hb
theorem Rr.al {W : World} {v : Value} {n k : Nat} {o : Obj} (h : Rr W v n k) : Rr (W.alloc o) v n k := h.keep (blw_one _ _)
theorem Rr.dr {W : World} {v : Value} {n k : Nat} (h : Rr W v n k) : Rr W.drew v n k := h.keep (blw_drew (Below.refl _ _))
theorem Rr.drN {W : World} {v : Value} {n k : Nat} {j : Nat} (h : Rr W v n k) : Rr (W.drewN j) v n k := h.keep (blw_drewN (Below.refl _ _) j)
/-- The literal Nat{1}. -/
theorem Rr.lit1 {w : World} : Rr (w.alloc (.cells #[.int .u32 1] 157)) (.slice (some ⟨w.heap.size, 0, none⟩) 1 1) 1 1 :=
  ⟨[1], rd_lit rfl [1] (dig1 (by omega)) (by simp) #[.int .u32 1] rfl 1 rfl, rfl, by simp⟩
theorem Nn.lit1 {w : World} : Nn (w.alloc (.cells #[.int .u32 1] 157)) (.slice (some ⟨w.heap.size, 0, none⟩) 1 1) 1 1 :=
  .lit (rd_lit rfl [1] (dig1 (by omega)) (by simp) #[.int .u32 1] rfl 1 rfl) (nf_one (by omega) (by omega)) (by simp)
end Go.Proofs.YtlameeijogdckaaGreat
