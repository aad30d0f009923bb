/-
  Texts of this claim, joined: Mem, Int, Int2, Small, Tape, Sqrt, TapeW.
-/
import Derived.Test.YtdlnoeegboapkaaGreatDoorCD
import Derived.Deep.RegionHeld3
import Derived.Deep.RegionWith
import Derived.Laws.IdiomCopy
import Derived.Test.YtdlnoeegboapkaaGreatDoorCC
import Derived.Laws.Pointers
/- Small laws on memory that the walks of this claim share: a cell that is kept by a call, a struct that is stored into a variable of the call's own and returned. printed by a small program (mkmem.py). -/
namespace Go.Proofs.YtdlnoeegboapkaaGreatDoor
open Go.RowKit

theorem ret_store {P : Program} {fn : Func} {R : Ending → World → Prop} {a : Act} {w : World} (k : Tmp) {v : Value} (_hv : a.tmps.getD k undef = v)
    (hr : (results fn a.tmps).run P w = .ok v w) (hd : a.defers = []) (hR : R (.returned v) w) : bodyPost P fn R .ret a w := ⟨hd, v, hr, hR⟩
/-- A store into a block of the call's own. -/
theorem blw_set {w W : World} {p : Addr} (x : Value) (h : Below w.heap.size w W) (hp : w.heap.size ≤ p.block) : Below w.heap.size w (W.setCell p x) := h.setCell hp x
theorem blw_drew {w W : World} (h : Below w.heap.size w W) : Below w.heap.size w W.drew := h.drew
theorem keepc {W w1 : World} {a : Addr} {v : Value} (hb : Below W.heap.size W w1) (h : W.cell? a = some v) : w1.cell? a = some v := (hb.cell (lt_of_cell h)).trans h
theorem keepf {W w1 : World} {a : Addr} (hb : Below W.heap.size W w1) {v : Value} (h : W.cell? a = some v) (hf : W.frozen? a = false) : w1.frozen? a = false := (hb.frozen (lt_of_cell h)).trans hf
theorem setf {W : World} {a p : Addr} {x : Value} (h : W.frozen? a = false) : (W.setCell p x).frozen? a = false := by
  simpa using h
theorem setn {W : World} {a p : Addr} {x v : Value} (h : W.cell? a = some v) (hne : p ≠ a) : (W.setCell p x).cell? a = some v := by
  rw [World.cell?_setCell_other _ _ _ _ hne]; exact h
theorem setnA {W : World} {a p : Addr} {x v : Value} (hne : p ≠ a) (h : W.cell? a = some v) : (W.setCell p x).cell? a = some v := setn h hne
theorem cellKeep {W W2 : World} {a : Addr} {v : Value} (hb : Below W.heap.size W W2) (h : W.cell? a = some v) : W2.cell? a = some v := keepc hb h
theorem cellAl {W : World} {a : Addr} {v : Value} {o : Obj} (h : W.cell? a = some v) : (W.alloc o).cell? a = some v := by
  rw [World.cell?_alloc_lt _ _ _ (lt_of_cell h)]; exact h
theorem cellDr {W : World} {a : Addr} {v : Value} (h : W.cell? a = some v) : W.drew.cell? a = some v := h
theorem cellDrN {W : World} {a : Addr} {v : Value} {j : Nat} (h : W.cell? a = some v) : (W.drewN j).cell? a = some v := h
/-- A cell that may be stored into. -/
def Fz (W : World) (a : Addr) : Prop := (∃ u, W.cell? a = some u) ∧ W.frozen? a = false
theorem Fz.out {W : World} {a : Addr} (h : Fz W a) : W.frozen? a = false := h.2
theorem Fz.mk' {W : World} {a : Addr} {v : Value} (h : W.cell? a = some v) (hf : W.frozen? a = false) : Fz W a := ⟨⟨v, h⟩, hf⟩
theorem Fz.keep {W W2 : World} {a : Addr} (hb : Below W.heap.size W W2) (h : Fz W a) : Fz W2 a := by
  obtain ⟨⟨v, hv⟩, hf⟩ := h
  exact ⟨⟨v, keepc hb hv⟩, keepf hb hv hf⟩
theorem Fz.al {W : World} {a : Addr} {o : Obj} (h : Fz W a) : Fz (W.alloc o) a := h.keep (blw_one _ _)
theorem Fz.dr {W : World} {a : Addr} (h : Fz W a) : Fz W.drew a := h
theorem Fz.drN {W : World} {a : Addr} {j : Nat} (h : Fz W a) : Fz (W.drewN j) a := h
theorem Fz.set {W : World} {a p : Addr} {x : Value} (h : Fz W a) : Fz (W.setCell p x) a := by
  obtain ⟨⟨v, hv⟩, hf⟩ := h
  obtain ⟨v', hv'⟩ := cell?_setCell_some (w := W) (p := p) (x := x) (q := a) (v := v) hv
  exact ⟨⟨v', hv'⟩, setf hf⟩
theorem setc {W : World} {a p : Addr} {x v : Value} (h : W.cell? a = some v) (hne : a.block < p.block) : (W.setCell p x).cell? a = some v :=
  setn h (fun e => by subst e; omega)

/-! ### what a cell holds, by its kind -/
def cellB (w : World) (a : Addr) : Bool := match w.cell? a with | some (.bool b) => b | _ => false
def cellA (w : World) (a : Addr) : Option Addr := match w.cell? a with | some (.slice x _ _) => x | _ => none
def cellL (w : World) (a : Addr) : Nat := match w.cell? a with | some (.slice _ x _) => x | _ => 0
def cellC (w : World) (a : Addr) : Nat := match w.cell? a with | some (.slice _ _ x) => x | _ => 0
def cellI (w : World) (a : Addr) : Int := match w.cell? a with | some (.int _ x) => x | _ => 0
def cellP (w : World) (a : Addr) : Option Addr := match w.cell? a with | some (.pointer x) => x | _ => none
theorem hasB {w : World} {a : Addr} {b : Bool} (h : w.cell? a = some (.bool b)) : w.cell? a = some (.bool (cellB w a)) := by unfold cellB; rw [h]
theorem keepB {W w1 : World} {a : Addr} (hb : Below W.heap.size W w1) {b : Bool} (h : W.cell? a = some (.bool b)) : w1.cell? a = some (.bool (cellB w1 a)) := hasB (keepc hb h)
theorem setBn {W : World} {a p : Addr} {y : Value} {b : Bool} (hne : p ≠ a) (h : W.cell? a = some (.bool b)) : (W.setCell p y).cell? a = some (.bool (cellB (W.setCell p y) a)) := hasB (setn h hne)
theorem setBs {W : World} {p : Addr} {u : Value} {b : Bool} (h : W.cell? p = some u) : (W.setCell p (.bool b)).cell? p = some (.bool (cellB (W.setCell p (.bool b)) p)) := hasB (World.cell?_setCell_same _ _ _ h)
theorem hasS {w : World} {a : Addr} {x : Option Addr} {l c : Nat} (h : w.cell? a = some (.slice x l c)) : w.cell? a = some (.slice (cellA w a) (cellL w a) (cellC w a)) := by unfold cellA cellL cellC; rw [h]
theorem keepS {W w1 : World} {a : Addr} (hb : Below W.heap.size W w1) {x : Option Addr} {l c : Nat} (h : W.cell? a = some (.slice x l c)) : w1.cell? a = some (.slice (cellA w1 a) (cellL w1 a) (cellC w1 a)) := hasS (keepc hb h)
theorem setSn {W : World} {a p : Addr} {y : Value} {x : Option Addr} {l c : Nat} (hne : p ≠ a) (h : W.cell? a = some (.slice x l c)) : (W.setCell p y).cell? a = some (.slice (cellA (W.setCell p y) a) (cellL (W.setCell p y) a) (cellC (W.setCell p y) a)) := hasS (setn h hne)
theorem setSs {W : World} {p : Addr} {u : Value} {x : Option Addr} {l c : Nat} (h : W.cell? p = some u) : (W.setCell p (.slice x l c)).cell? p = some (.slice (cellA (W.setCell p (.slice x l c)) p) (cellL (W.setCell p (.slice x l c)) p) (cellC (W.setCell p (.slice x l c)) p)) := hasS (World.cell?_setCell_same _ _ _ h)
theorem hasI {w : World} {a : Addr} {n : Int} (h : w.cell? a = some (.int .i64 n)) : w.cell? a = some (.int .i64 (cellI w a)) := by unfold cellI; rw [h]
theorem keepI {W w1 : World} {a : Addr} (hb : Below W.heap.size W w1) {n : Int} (h : W.cell? a = some (.int .i64 n)) : w1.cell? a = some (.int .i64 (cellI w1 a)) := hasI (keepc hb h)
theorem setIn {W : World} {a p : Addr} {y : Value} {n : Int} (hne : p ≠ a) (h : W.cell? a = some (.int .i64 n)) : (W.setCell p y).cell? a = some (.int .i64 (cellI (W.setCell p y) a)) := hasI (setn h hne)
theorem setIs {W : World} {p : Addr} {u : Value} {n : Int} (h : W.cell? p = some u) : (W.setCell p (.int .i64 n)).cell? p = some (.int .i64 (cellI (W.setCell p (.int .i64 n)) p)) := hasI (World.cell?_setCell_same _ _ _ h)
theorem hasU {w : World} {a : Addr} {n : Int} (h : w.cell? a = some (.int .u32 n)) : w.cell? a = some (.int .u32 (cellI w a)) := by unfold cellI; rw [h]
theorem keepU {W w1 : World} {a : Addr} (hb : Below W.heap.size W w1) {n : Int} (h : W.cell? a = some (.int .u32 n)) : w1.cell? a = some (.int .u32 (cellI w1 a)) := hasU (keepc hb h)
theorem setUn {W : World} {a p : Addr} {y : Value} {n : Int} (hne : p ≠ a) (h : W.cell? a = some (.int .u32 n)) : (W.setCell p y).cell? a = some (.int .u32 (cellI (W.setCell p y) a)) := hasU (setn h hne)
theorem setUs {W : World} {p : Addr} {u : Value} {n : Int} (h : W.cell? p = some u) : (W.setCell p (.int .u32 n)).cell? p = some (.int .u32 (cellI (W.setCell p (.int .u32 n)) p)) := hasU (World.cell?_setCell_same _ _ _ h)
theorem hasP {w : World} {a : Addr} {x : Option Addr} (h : w.cell? a = some (.pointer x)) : w.cell? a = some (.pointer (cellP w a)) := by unfold cellP; rw [h]
theorem keepP {W w1 : World} {a : Addr} (hb : Below W.heap.size W w1) {x : Option Addr} (h : W.cell? a = some (.pointer x)) : w1.cell? a = some (.pointer (cellP w1 a)) := hasP (keepc hb h)
theorem setPn {W : World} {a p : Addr} {y : Value} {x : Option Addr} (hne : p ≠ a) (h : W.cell? a = some (.pointer x)) : (W.setCell p y).cell? a = some (.pointer (cellP (W.setCell p y) a)) := hasP (setn h hne)
theorem setPs {W : World} {p : Addr} {u : Value} {x : Option Addr} (h : W.cell? p = some u) : (W.setCell p (.pointer x)).cell? p = some (.pointer (cellP (W.setCell p (.pointer x)) p)) := hasP (World.cell?_setCell_same _ _ _ h)
theorem back_set {W : World} {p q : Addr} {x u : Value} (h : (W.setCell p x).cell? q = some u) : ∃ v, W.cell? q = some v := by
  by_cases e : p = q
  · subst e
    unfold World.cell? at h ⊢
    simp only [World.setCell, Array.getElem?_modify, ↓reduceIte] at h
    cases hh : W.heap[p.block]? with
    | none => simp [hh] at h
    | some o =>
      cases o with
      | cells c t f =>
        simp only [hh, Option.map_some] at h
        cases hs : p.spot.isSome with
        | true => simp [hs] at h
        | false =>
          simp only [hs] at h ⊢
          have hlt : p.off < c.size := by
            rcases Nat.lt_or_ge p.off c.size with h' | h'
            · exact h'
            · simp [h'] at h
          exact ⟨c[p.off], by simp [hlt]⟩
      | _ => simp [hh] at h
  · rw [World.cell?_setCell_other _ _ _ _ e] at h
    exact ⟨u, h⟩
theorem back_sets {b : Nat} : ∀ (vs : List Value) (o : Nat) (W : World) (q : Addr) (u : Value), (W.setCells b o vs).cell? q = some u → ∃ v, W.cell? q = some v
  | [], _, _, _, u, h => ⟨u, h⟩
  | v :: r, o, W, q, u, h => by
    obtain ⟨v', h'⟩ := back_sets r (o + 1) _ q u h
    exact back_set h'
/-- The cells of a struct that has been stored. -/
theorem stored_cells {b : Nat} {W w1 : World} (vs : List Value) (hW : W = w1.setCells b 0 vs) (hh : ∀ j, j < vs.length → ∃ u, W.cell? ⟨b, j, none⟩ = some u) :
    ∀ j (hj : j < vs.length), W.cell? ⟨b, j, none⟩ = some vs[j] := by
  subst hW
  intro j hj
  have := World.cell?_setCells_in b vs 0 w1 (fun j hj => by
    obtain ⟨u, hu⟩ := hh j hj
    obtain ⟨v, hv⟩ := back_sets vs 0 w1 _ _ hu
    rw [Nat.zero_add, hv]; rfl) j hj
  rw [Nat.zero_add] at this
  exact this
theorem loadVar_at {P : Program} (W : World) (b : Nat) (ty : TypeId) (vs : List Value) (d : TypeDesc) (hu : P.underlying ty = some d) (hd : (match d with | .struct _ | .array _ _ => true | _ => false) = true)
    (hi : (P.info? ty).map (·.size) = some vs.length) (hc : ∀ j (hj : j < vs.length), W.cell? ⟨b, j, none⟩ = some vs[j]) : (loadVar ty ⟨b, 0, none⟩).run P W = .ok (.agg vs.toArray) W := by
  have hl : (loadCells ⟨b, 0, none⟩ vs.length).run P W = .ok vs.toArray W :=
    run_loadCells_list (P := P) W ⟨b, 0, none⟩ vs (fun j v hv => by
      have hadd : (⟨b, 0, none⟩ : Addr).add j = ⟨b, j, none⟩ := by unfold Addr.add; split <;> simp_all
      rw [hadd]
      have hj : j < vs.length := by
        rcases Nat.lt_or_ge j vs.length with h | h
        · exact h
        · rw [List.getElem?_eq_none h] at hv; cases hv
      rw [hc j hj, ← hv, List.getElem?_eq_getElem hj])
  cases hq : P.info? ty with
  | none => simp [hq] at hi
  | some i =>
    have hs : i.size = vs.length := by simpa [hq] using hi
    have hagg : (isAgg ty).run P W = .ok true W := by
      unfold isAgg
      rw [Sem.run_bind, run_underlying hu W]
      cases d <;> simp_all
    simp [loadVar, hagg, sizeOf, typeInfo, hq, hs, hl]
/-- The end of a walk whose result is a struct that has just been stored into the result's variable. -/
theorem ret_cells {P : Program} {fn : Func} {R : Ending → World → Prop} {a : Act} {W w1 : World} {b : Nat} (vs : List Value) {p : Tmp} {ty : TypeId} {d : TypeDesc} (hr : fn.results = #[.cell p ty])
    (hu : P.underlying ty = some d) (hd : (match d with | .struct _ | .array _ _ => true | _ => false) = true) (hi : (P.info? ty).map (·.size) = some vs.length)
    (hp : a.tmps.getD p undef = .pointer (some ⟨b, 0, none⟩)) (hW : W = w1.setCells b 0 vs) (hh : ∀ j, j < vs.length → ∃ u, W.cell? ⟨b, j, none⟩ = some u)
    (hdf : a.defers = []) (hR : R (.returned (.agg vs.toArray)) W) : bodyPost P fn R .ret a W := by
  refine ⟨hdf, _, ?_, hR⟩
  have hp' : a.tmps[p]?.getD undef = .pointer (some ⟨b, 0, none⟩) := by simpa using hp
  simp [results, hr, hp', asAddr, loadVar_at W b ty vs d hu hd hi (stored_cells vs hW hh)]
theorem lt_two {P : Nat → Prop} (h0 : P 0) (h1 : P 1) : ∀ j, j < 2 → P j := by
  intro j hj
  match j, hj with
  | 0, _ => exact h0
  | 1, _ => exact h1
theorem lt_three {P : Nat → Prop} (h0 : P 0) (h1 : P 1) (h2 : P 2) : ∀ j, j < 3 → P j := by
  intro j hj
  match j, hj with
  | 0, _ => exact h0
  | 1, _ => exact h1
  | 2, _ => exact h2
theorem lt_six {P : Nat → Prop} (h0 : P 0) (h1 : P 1) (h2 : P 2) (h3 : P 3) (h4 : P 4) (h5 : P 5) : ∀ j, j < 6 → P j := by
  intro j hj
  match j, hj with
  | 0, _ => exact h0
  | 1, _ => exact h1
  | 2, _ => exact h2
  | 3, _ => exact h3
  | 4, _ => exact h4
  | 5, _ => exact h5
theorem lt_eight {P : Nat → Prop} (h0 : P 0) (h1 : P 1) (h2 : P 2) (h3 : P 3) (h4 : P 4) (h5 : P 5) (h6 : P 6) (h7 : P 7) : ∀ j, j < 8 → P j := by
  intro j hj
  match j, hj with
  | 0, _ => exact h0
  | 1, _ => exact h1
  | 2, _ => exact h2
  | 3, _ => exact h3
  | 4, _ => exact h4
  | 5, _ => exact h5
  | 6, _ => exact h6
  | 7, _ => exact h7
theorem ret_cells2 {P : Program} {fn : Func} {R : Ending → World → Prop} {a : Act} {w1 : World} {b : Nat} {x0 x1 : Value} {p : Tmp} {ty : TypeId} {d : TypeDesc} (hr : fn.results = #[.cell p ty])
    (hu : P.underlying ty = some d) (hd : (match d with | .struct _ | .array _ _ => true | _ => false) = true) (hi : (P.info? ty).map (·.size) = some 2)
    (hp : a.tmps.getD p undef = .pointer (some ⟨b, 0, none⟩)) (h0 : ∃ u, ((w1.setCell ⟨b, 0, none⟩ x0).setCell ⟨b, 1, none⟩ x1).cell? ⟨b, 0, none⟩ = some u) (h1 : ∃ u, ((w1.setCell ⟨b, 0, none⟩ x0).setCell ⟨b, 1, none⟩ x1).cell? ⟨b, 1, none⟩ = some u)
    (hdf : a.defers = []) (hR : R (.returned (.agg #[x0, x1])) ((w1.setCell ⟨b, 0, none⟩ x0).setCell ⟨b, 1, none⟩ x1)) : bodyPost P fn R .ret a ((w1.setCell ⟨b, 0, none⟩ x0).setCell ⟨b, 1, none⟩ x1) :=
  ret_cells (w1 := w1) [x0, x1] hr hu hd hi hp rfl (lt_two h0 h1) hdf hR
theorem ret_cells3 {P : Program} {fn : Func} {R : Ending → World → Prop} {a : Act} {w1 : World} {b : Nat} {x0 x1 x2 : Value} {p : Tmp} {ty : TypeId} {d : TypeDesc} (hr : fn.results = #[.cell p ty])
    (hu : P.underlying ty = some d) (hd : (match d with | .struct _ | .array _ _ => true | _ => false) = true) (hi : (P.info? ty).map (·.size) = some 3)
    (hp : a.tmps.getD p undef = .pointer (some ⟨b, 0, none⟩)) (h0 : ∃ u, (((w1.setCell ⟨b, 0, none⟩ x0).setCell ⟨b, 1, none⟩ x1).setCell ⟨b, 2, none⟩ x2).cell? ⟨b, 0, none⟩ = some u) (h1 : ∃ u, (((w1.setCell ⟨b, 0, none⟩ x0).setCell ⟨b, 1, none⟩ x1).setCell ⟨b, 2, none⟩ x2).cell? ⟨b, 1, none⟩ = some u) (h2 : ∃ u, (((w1.setCell ⟨b, 0, none⟩ x0).setCell ⟨b, 1, none⟩ x1).setCell ⟨b, 2, none⟩ x2).cell? ⟨b, 2, none⟩ = some u)
    (hdf : a.defers = []) (hR : R (.returned (.agg #[x0, x1, x2])) (((w1.setCell ⟨b, 0, none⟩ x0).setCell ⟨b, 1, none⟩ x1).setCell ⟨b, 2, none⟩ x2)) : bodyPost P fn R .ret a (((w1.setCell ⟨b, 0, none⟩ x0).setCell ⟨b, 1, none⟩ x1).setCell ⟨b, 2, none⟩ x2) :=
  ret_cells (w1 := w1) [x0, x1, x2] hr hu hd hi hp rfl (lt_three h0 h1 h2) hdf hR
theorem ret_cells6 {P : Program} {fn : Func} {R : Ending → World → Prop} {a : Act} {w1 : World} {b : Nat} {x0 x1 x2 x3 x4 x5 : Value} {p : Tmp} {ty : TypeId} {d : TypeDesc} (hr : fn.results = #[.cell p ty])
    (hu : P.underlying ty = some d) (hd : (match d with | .struct _ | .array _ _ => true | _ => false) = true) (hi : (P.info? ty).map (·.size) = some 6)
    (hp : a.tmps.getD p undef = .pointer (some ⟨b, 0, none⟩)) (h0 : ∃ u, ((((((w1.setCell ⟨b, 0, none⟩ x0).setCell ⟨b, 1, none⟩ x1).setCell ⟨b, 2, none⟩ x2).setCell ⟨b, 3, none⟩ x3).setCell ⟨b, 4, none⟩ x4).setCell ⟨b, 5, none⟩ x5).cell? ⟨b, 0, none⟩ = some u) (h1 : ∃ u, ((((((w1.setCell ⟨b, 0, none⟩ x0).setCell ⟨b, 1, none⟩ x1).setCell ⟨b, 2, none⟩ x2).setCell ⟨b, 3, none⟩ x3).setCell ⟨b, 4, none⟩ x4).setCell ⟨b, 5, none⟩ x5).cell? ⟨b, 1, none⟩ = some u) (h2 : ∃ u, ((((((w1.setCell ⟨b, 0, none⟩ x0).setCell ⟨b, 1, none⟩ x1).setCell ⟨b, 2, none⟩ x2).setCell ⟨b, 3, none⟩ x3).setCell ⟨b, 4, none⟩ x4).setCell ⟨b, 5, none⟩ x5).cell? ⟨b, 2, none⟩ = some u) (h3 : ∃ u, ((((((w1.setCell ⟨b, 0, none⟩ x0).setCell ⟨b, 1, none⟩ x1).setCell ⟨b, 2, none⟩ x2).setCell ⟨b, 3, none⟩ x3).setCell ⟨b, 4, none⟩ x4).setCell ⟨b, 5, none⟩ x5).cell? ⟨b, 3, none⟩ = some u) (h4 : ∃ u, ((((((w1.setCell ⟨b, 0, none⟩ x0).setCell ⟨b, 1, none⟩ x1).setCell ⟨b, 2, none⟩ x2).setCell ⟨b, 3, none⟩ x3).setCell ⟨b, 4, none⟩ x4).setCell ⟨b, 5, none⟩ x5).cell? ⟨b, 4, none⟩ = some u) (h5 : ∃ u, ((((((w1.setCell ⟨b, 0, none⟩ x0).setCell ⟨b, 1, none⟩ x1).setCell ⟨b, 2, none⟩ x2).setCell ⟨b, 3, none⟩ x3).setCell ⟨b, 4, none⟩ x4).setCell ⟨b, 5, none⟩ x5).cell? ⟨b, 5, none⟩ = some u)
    (hdf : a.defers = []) (hR : R (.returned (.agg #[x0, x1, x2, x3, x4, x5])) ((((((w1.setCell ⟨b, 0, none⟩ x0).setCell ⟨b, 1, none⟩ x1).setCell ⟨b, 2, none⟩ x2).setCell ⟨b, 3, none⟩ x3).setCell ⟨b, 4, none⟩ x4).setCell ⟨b, 5, none⟩ x5)) : bodyPost P fn R .ret a ((((((w1.setCell ⟨b, 0, none⟩ x0).setCell ⟨b, 1, none⟩ x1).setCell ⟨b, 2, none⟩ x2).setCell ⟨b, 3, none⟩ x3).setCell ⟨b, 4, none⟩ x4).setCell ⟨b, 5, none⟩ x5) :=
  ret_cells (w1 := w1) [x0, x1, x2, x3, x4, x5] hr hu hd hi hp rfl (lt_six h0 h1 h2 h3 h4 h5) hdf hR
theorem ret_cells8 {P : Program} {fn : Func} {R : Ending → World → Prop} {a : Act} {w1 : World} {b : Nat} {x0 x1 x2 x3 x4 x5 x6 x7 : Value} {p : Tmp} {ty : TypeId} {d : TypeDesc} (hr : fn.results = #[.cell p ty])
    (hu : P.underlying ty = some d) (hd : (match d with | .struct _ | .array _ _ => true | _ => false) = true) (hi : (P.info? ty).map (·.size) = some 8)
    (hp : a.tmps.getD p undef = .pointer (some ⟨b, 0, none⟩)) (h0 : ∃ u, ((((((((w1.setCell ⟨b, 0, none⟩ x0).setCell ⟨b, 1, none⟩ x1).setCell ⟨b, 2, none⟩ x2).setCell ⟨b, 3, none⟩ x3).setCell ⟨b, 4, none⟩ x4).setCell ⟨b, 5, none⟩ x5).setCell ⟨b, 6, none⟩ x6).setCell ⟨b, 7, none⟩ x7).cell? ⟨b, 0, none⟩ = some u) (h1 : ∃ u, ((((((((w1.setCell ⟨b, 0, none⟩ x0).setCell ⟨b, 1, none⟩ x1).setCell ⟨b, 2, none⟩ x2).setCell ⟨b, 3, none⟩ x3).setCell ⟨b, 4, none⟩ x4).setCell ⟨b, 5, none⟩ x5).setCell ⟨b, 6, none⟩ x6).setCell ⟨b, 7, none⟩ x7).cell? ⟨b, 1, none⟩ = some u) (h2 : ∃ u, ((((((((w1.setCell ⟨b, 0, none⟩ x0).setCell ⟨b, 1, none⟩ x1).setCell ⟨b, 2, none⟩ x2).setCell ⟨b, 3, none⟩ x3).setCell ⟨b, 4, none⟩ x4).setCell ⟨b, 5, none⟩ x5).setCell ⟨b, 6, none⟩ x6).setCell ⟨b, 7, none⟩ x7).cell? ⟨b, 2, none⟩ = some u) (h3 : ∃ u, ((((((((w1.setCell ⟨b, 0, none⟩ x0).setCell ⟨b, 1, none⟩ x1).setCell ⟨b, 2, none⟩ x2).setCell ⟨b, 3, none⟩ x3).setCell ⟨b, 4, none⟩ x4).setCell ⟨b, 5, none⟩ x5).setCell ⟨b, 6, none⟩ x6).setCell ⟨b, 7, none⟩ x7).cell? ⟨b, 3, none⟩ = some u) (h4 : ∃ u, ((((((((w1.setCell ⟨b, 0, none⟩ x0).setCell ⟨b, 1, none⟩ x1).setCell ⟨b, 2, none⟩ x2).setCell ⟨b, 3, none⟩ x3).setCell ⟨b, 4, none⟩ x4).setCell ⟨b, 5, none⟩ x5).setCell ⟨b, 6, none⟩ x6).setCell ⟨b, 7, none⟩ x7).cell? ⟨b, 4, none⟩ = some u) (h5 : ∃ u, ((((((((w1.setCell ⟨b, 0, none⟩ x0).setCell ⟨b, 1, none⟩ x1).setCell ⟨b, 2, none⟩ x2).setCell ⟨b, 3, none⟩ x3).setCell ⟨b, 4, none⟩ x4).setCell ⟨b, 5, none⟩ x5).setCell ⟨b, 6, none⟩ x6).setCell ⟨b, 7, none⟩ x7).cell? ⟨b, 5, none⟩ = some u) (h6 : ∃ u, ((((((((w1.setCell ⟨b, 0, none⟩ x0).setCell ⟨b, 1, none⟩ x1).setCell ⟨b, 2, none⟩ x2).setCell ⟨b, 3, none⟩ x3).setCell ⟨b, 4, none⟩ x4).setCell ⟨b, 5, none⟩ x5).setCell ⟨b, 6, none⟩ x6).setCell ⟨b, 7, none⟩ x7).cell? ⟨b, 6, none⟩ = some u) (h7 : ∃ u, ((((((((w1.setCell ⟨b, 0, none⟩ x0).setCell ⟨b, 1, none⟩ x1).setCell ⟨b, 2, none⟩ x2).setCell ⟨b, 3, none⟩ x3).setCell ⟨b, 4, none⟩ x4).setCell ⟨b, 5, none⟩ x5).setCell ⟨b, 6, none⟩ x6).setCell ⟨b, 7, none⟩ x7).cell? ⟨b, 7, none⟩ = some u)
    (hdf : a.defers = []) (hR : R (.returned (.agg #[x0, x1, x2, x3, x4, x5, x6, x7])) ((((((((w1.setCell ⟨b, 0, none⟩ x0).setCell ⟨b, 1, none⟩ x1).setCell ⟨b, 2, none⟩ x2).setCell ⟨b, 3, none⟩ x3).setCell ⟨b, 4, none⟩ x4).setCell ⟨b, 5, none⟩ x5).setCell ⟨b, 6, none⟩ x6).setCell ⟨b, 7, none⟩ x7)) : bodyPost P fn R .ret a ((((((((w1.setCell ⟨b, 0, none⟩ x0).setCell ⟨b, 1, none⟩ x1).setCell ⟨b, 2, none⟩ x2).setCell ⟨b, 3, none⟩ x3).setCell ⟨b, 4, none⟩ x4).setCell ⟨b, 5, none⟩ x5).setCell ⟨b, 6, none⟩ x6).setCell ⟨b, 7, none⟩ x7) :=
  ret_cells (w1 := w1) [x0, x1, x2, x3, x4, x5, x6, x7] hr hu hd hi hp rfl (lt_eight h0 h1 h2 h3 h4 h5 h6 h7) hdf hR
theorem setsame {W : World} {p : Addr} {u x : Value} (h : W.cell? p = some u) : (W.setCell p x).cell? p = some x := World.cell?_setCell_same _ _ _ h
theorem loads2 {P : Program} {W : World} {b : Nat} {ty : TypeId} {d : TypeDesc} {x0 x1 : Value} (hu : P.underlying ty = some d) (hd : (match d with | .struct _ | .array _ _ => true | _ => false) = true) (hi : (P.info? ty).map (·.size) = some 2)
    (h0 : W.cell? ⟨b, 0, none⟩ = some x0) (h1 : W.cell? ⟨b, 1, none⟩ = some x1) : (loadVar ty ⟨b, 0, none⟩).run P W = .ok (.agg #[x0, x1]) W :=
  loadVar_at W b ty [x0, x1] d hu hd hi (fun j hj => lt_two (P := fun j => ∀ hj : j < 2, W.cell? ⟨b, j, none⟩ = some ([x0, x1][j]'hj)) (fun _ => h0) (fun _ => h1) j hj hj)
theorem loads3 {P : Program} {W : World} {b : Nat} {ty : TypeId} {d : TypeDesc} {x0 x1 x2 : Value} (hu : P.underlying ty = some d) (hd : (match d with | .struct _ | .array _ _ => true | _ => false) = true) (hi : (P.info? ty).map (·.size) = some 3)
    (h0 : W.cell? ⟨b, 0, none⟩ = some x0) (h1 : W.cell? ⟨b, 1, none⟩ = some x1) (h2 : W.cell? ⟨b, 2, none⟩ = some x2) : (loadVar ty ⟨b, 0, none⟩).run P W = .ok (.agg #[x0, x1, x2]) W :=
  loadVar_at W b ty [x0, x1, x2] d hu hd hi (fun j hj => lt_three (P := fun j => ∀ hj : j < 3, W.cell? ⟨b, j, none⟩ = some ([x0, x1, x2][j]'hj)) (fun _ => h0) (fun _ => h1) (fun _ => h2) j hj hj)
theorem loads6 {P : Program} {W : World} {b : Nat} {ty : TypeId} {d : TypeDesc} {x0 x1 x2 x3 x4 x5 : Value} (hu : P.underlying ty = some d) (hd : (match d with | .struct _ | .array _ _ => true | _ => false) = true) (hi : (P.info? ty).map (·.size) = some 6)
    (h0 : W.cell? ⟨b, 0, none⟩ = some x0) (h1 : W.cell? ⟨b, 1, none⟩ = some x1) (h2 : W.cell? ⟨b, 2, none⟩ = some x2) (h3 : W.cell? ⟨b, 3, none⟩ = some x3) (h4 : W.cell? ⟨b, 4, none⟩ = some x4) (h5 : W.cell? ⟨b, 5, none⟩ = some x5) : (loadVar ty ⟨b, 0, none⟩).run P W = .ok (.agg #[x0, x1, x2, x3, x4, x5]) W :=
  loadVar_at W b ty [x0, x1, x2, x3, x4, x5] d hu hd hi (fun j hj => lt_six (P := fun j => ∀ hj : j < 6, W.cell? ⟨b, j, none⟩ = some ([x0, x1, x2, x3, x4, x5][j]'hj)) (fun _ => h0) (fun _ => h1) (fun _ => h2) (fun _ => h3) (fun _ => h4) (fun _ => h5) j hj hj)
theorem loads8 {P : Program} {W : World} {b : Nat} {ty : TypeId} {d : TypeDesc} {x0 x1 x2 x3 x4 x5 x6 x7 : Value} (hu : P.underlying ty = some d) (hd : (match d with | .struct _ | .array _ _ => true | _ => false) = true) (hi : (P.info? ty).map (·.size) = some 8)
    (h0 : W.cell? ⟨b, 0, none⟩ = some x0) (h1 : W.cell? ⟨b, 1, none⟩ = some x1) (h2 : W.cell? ⟨b, 2, none⟩ = some x2) (h3 : W.cell? ⟨b, 3, none⟩ = some x3) (h4 : W.cell? ⟨b, 4, none⟩ = some x4) (h5 : W.cell? ⟨b, 5, none⟩ = some x5) (h6 : W.cell? ⟨b, 6, none⟩ = some x6) (h7 : W.cell? ⟨b, 7, none⟩ = some x7) : (loadVar ty ⟨b, 0, none⟩).run P W = .ok (.agg #[x0, x1, x2, x3, x4, x5, x6, x7]) W :=
  loadVar_at W b ty [x0, x1, x2, x3, x4, x5, x6, x7] d hu hd hi (fun j hj => lt_eight (P := fun j => ∀ hj : j < 8, W.cell? ⟨b, j, none⟩ = some ([x0, x1, x2, x3, x4, x5, x6, x7][j]'hj)) (fun _ => h0) (fun _ => h1) (fun _ => h2) (fun _ => h3) (fun _ => h4) (fun _ => h5) (fun _ => h6) (fun _ => h7) j hj hj)
/-- The end of a walk: the results in order; a struct by the law that loads it. -/
theorem ret_cct {P : Program} {fn : Func} {R : Ending → World → Prop} {a : Act} {W : World} {p q u : Tmp} {ty ty2 : TypeId} {b1 b2 : Nat} {v1 v2 : Value} (hr : fn.results = #[.cell p ty, .cell q ty2, .tmp u])
    (hp : a.tmps.getD p undef = .pointer (some ⟨b1, 0, none⟩)) (hq : a.tmps.getD q undef = .pointer (some ⟨b2, 0, none⟩)) (h1 : (loadVar ty ⟨b1, 0, none⟩).run P W = .ok v1 W) (h2 : (loadVar ty2 ⟨b2, 0, none⟩).run P W = .ok v2 W)
    (hdf : a.defers = []) (hR : R (.returned (.tuple #[v1, v2, a.tmps.getD u undef])) W) : bodyPost P fn R .ret a W := by
  refine ⟨hdf, _, ?_, hR⟩
  have hp' : a.tmps[p]?.getD undef = .pointer (some ⟨b1, 0, none⟩) := by simpa using hp
  have hq' : a.tmps[q]?.getD undef = .pointer (some ⟨b2, 0, none⟩) := by simpa using hq
  simp [results, hr, hp', hq', asAddr, h1, h2]
theorem ret_ct {P : Program} {fn : Func} {R : Ending → World → Prop} {a : Act} {W : World} {p u : Tmp} {ty : TypeId} {b1 : Nat} {v1 : Value} (hr : fn.results = #[.cell p ty, .tmp u])
    (hp : a.tmps.getD p undef = .pointer (some ⟨b1, 0, none⟩)) (h1 : (loadVar ty ⟨b1, 0, none⟩).run P W = .ok v1 W)
    (hdf : a.defers = []) (hR : R (.returned (.tuple #[v1, a.tmps.getD u undef])) W) : bodyPost P fn R .ret a W := by
  refine ⟨hdf, _, ?_, hR⟩
  have hp' : a.tmps[p]?.getD undef = .pointer (some ⟨b1, 0, none⟩) := by simpa using hp
  simp [results, hr, hp', asAddr, h1]
theorem ret_c {P : Program} {fn : Func} {R : Ending → World → Prop} {a : Act} {W : World} {p : Tmp} {ty : TypeId} {b1 : Nat} {v1 : Value} (hr : fn.results = #[.cell p ty])
    (hp : a.tmps.getD p undef = .pointer (some ⟨b1, 0, none⟩)) (h1 : (loadVar ty ⟨b1, 0, none⟩).run P W = .ok v1 W)
    (hdf : a.defers = []) (hR : R (.returned v1) W) : bodyPost P fn R .ret a W := by
  refine ⟨hdf, _, ?_, hR⟩
  have hp' : a.tmps[p]?.getD undef = .pointer (some ⟨b1, 0, none⟩) := by simpa using hp
  simp [results, hr, hp', asAddr, h1]

/-! ### readings are kept -/
/-- No digit. -/
def isDigit32 : Value → Bool
  | .int .u32 _ => true
  | _ => false
theorem Rd.set {W : World} {v : Value} {l : List Nat} (h : Rd W v l) (p : Addr) (x : Value) {u : Value} (hc : W.cell? p = some u) (hu : isDigit32 u = false) : Rd (W.setCell p x) v l := by
  obtain ⟨a, cap, rfl, h1, h2, h3, h4⟩ := h
  refine ⟨a, cap, rfl, h1, h2, h3, fun h0 => ?_⟩
  obtain ⟨b, off, rfl, hcell⟩ := h4 h0
  refine ⟨b, off, rfl, fun i hi => ?_⟩
  rw [World.cell?_setCell_other _ _ _ _ (fun e => ?_)]
  · exact hcell i hi
  · subst e
    rw [hcell i hi] at hc
    injection hc with hc
    subst hc
    simp [isDigit32] at hu
theorem Nn.set {W : World} {v : Value} {n k : Nat} (h : Nn W v n k) (p : Addr) (x : Value) {u : Value} (hc : W.cell? p = some u) (hu : isDigit32 u = false) : Nn (W.setCell p x) v n k := by
  exact ⟨h.1.set p x hc hu, h.2⟩
theorem Nn.set2 {W : World} {v : Value} {n k : Nat} {p : Addr} {x u : Value} (hc : W.cell? p = some u) (hu : isDigit32 u = false) (h : Nn W v n k) : Nn (W.setCell p x) v n k := h.set p x hc hu
theorem Nn.keep2 {W W2 : World} {v : Value} {n k : Nat} (hb : Below W.heap.size W W2) (h : Nn W v n k) : Nn W2 v n k := h.keep hb
theorem Nn.al {W : World} {v : Value} {n k : Nat} {o : Obj} (h : Nn W v n k) : Nn (W.alloc o) v n k := h.keep (blw_one _ _)
theorem Nn.dr {W : World} {v : Value} {n k : Nat} (h : Nn W v n k) : Nn W.drew v n k := h.keep (blw_drew (Below.refl _ _))
theorem Nn.drN {W : World} {v : Value} {n k : Nat} {j : Nat} (h : Nn W v n k) : Nn (W.drewN j) v n k := h.keep (blw_drewN (Below.refl _ _) j)
theorem Rr.set {W : World} {v : Value} {n k : Nat} (h : Rr W v n k) (p : Addr) (x : Value) {u : Value} (hc : W.cell? p = some u) (hu : isDigit32 u = false) : Rr (W.setCell p x) v n k := by
  obtain ⟨l, h1, h2⟩ := h
  exact ⟨l, h1.set p x hc hu, h2⟩
theorem Rr.set2 {W : World} {v : Value} {n k : Nat} {p : Addr} {x u : Value} (hc : W.cell? p = some u) (hu : isDigit32 u = false) (h : Rr W v n k) : Rr (W.setCell p x) v n k := h.set p x hc hu
theorem Rr.keep2 {W W2 : World} {v : Value} {n k : Nat} (hb : Below W.heap.size W W2) (h : Rr W v n k) : Rr W2 v n k := h.keep hb
theorem Rr.al {W : World} {v : Value} {n k : Nat} {o : Obj} (h : Rr W v n k) : Rr (W.alloc o) v n k := h.keep (blw_one _ _)
theorem Rr.dr {W : World} {v : Value} {n k : Nat} (h : Rr W v n k) : Rr W.drew v n k := h.keep (blw_drew (Below.refl _ _))
theorem Rr.drN {W : World} {v : Value} {n k : Nat} {j : Nat} (h : Rr W v n k) : Rr (W.drewN j) v n k := h.keep (blw_drewN (Below.refl _ _) j)
/-- The literal Nat{1}. -/
theorem Rr.lit1 {w : World} : Rr (w.alloc (.cells #[.int .u32 1] 106)) (.slice (some ⟨w.heap.size, 0, none⟩) 1 1) 1 1 :=
  ⟨[1], rd_lit rfl [1] (dig1 (by omega)) (by simp) #[.int .u32 1] rfl 1 rfl, rfl, by simp⟩
theorem Nn.lit1 {w : World} : Nn (w.alloc (.cells #[.int .u32 1] 106)) (.slice (some ⟨w.heap.size, 0, none⟩) 1 1) 1 1 :=
  .lit (rd_lit rfl [1] (dig1 (by omega)) (by simp) #[.int .u32 1] rfl 1 rfl) (nf_one (by omega) (by omega)) (by simp)
end Go.Proofs.YtdlnoeegboapkaaGreatDoor

/- Integers in memory, as a sign and a slice of digits; contracts of package integer. printed by a small program (mkint.py). -/
namespace Go.Proofs.YtdlnoeegboapkaaGreatDoor
open Go.RowKit

def sgn (g : Bool) (n : Nat) : Int := if g then -(n : Int) else (n : Int)
/-- The sign g and the slice s are the integer z in normal form, of at most k digits. -/
def Zz (w : World) (g : Bool) (s : Value) (z : Int) (k : Nat) : Prop := g = decide (z < 0) ∧ Nn w s z.natAbs k
/-- The sign g and the slice s read as the integer z, perhaps not in normal form. -/
def Zi (w : World) (g : Bool) (s : Value) (z : Int) (k : Nat) : Prop := ∃ n, Rr w s n k ∧ z = sgn g n
theorem sgn_of (z : Int) : sgn (decide (z < 0)) z.natAbs = z := by
  unfold sgn
  by_cases h : z < 0
  · simp [h]; omega
  · simp [h]; omega
theorem sgn_abs (g : Bool) (n : Nat) : (sgn g n).natAbs = n := by cases g <;> simp [sgn]
theorem sgn_true (n : Nat) : sgn true n = -(n : Int) := rfl
theorem sgn_false (n : Nat) : sgn false n = (n : Int) := rfl
theorem Zz.zi {w : World} {g : Bool} {s : Value} {z : Int} {k : Nat} (h : Zz w g s z k) : Zi w g s z k := ⟨_, h.2.rr, by rw [h.1, sgn_of]⟩
theorem Zz.keep {w w' : World} {g : Bool} {s : Value} {z : Int} {k : Nat} (h : Zz w g s z k) (hb : Below w.heap.size w w') : Zz w' g s z k := ⟨h.1, h.2.keep hb⟩
theorem Zi.keep {w w' : World} {g : Bool} {s : Value} {z : Int} {k : Nat} (h : Zi w g s z k) (hb : Below w.heap.size w w') : Zi w' g s z k := by
  obtain ⟨n, h1, h2⟩ := h
  exact ⟨n, h1.keep hb, h2⟩
theorem Zz.set {W : World} {g : Bool} {s : Value} {z : Int} {k : Nat} (h : Zz W g s z k) (p : Addr) (x : Value) {u : Value} (hc : W.cell? p = some u) (hu : isDigit32 u = false) : Zz (W.setCell p x) g s z k := by
  exact ⟨h.1, h.2.set p x hc hu⟩
theorem Zz.set2 {W : World} {g : Bool} {s : Value} {z : Int} {k : Nat} {p : Addr} {x u : Value} (hc : W.cell? p = some u) (hu : isDigit32 u = false) (h : Zz W g s z k) : Zz (W.setCell p x) g s z k := h.set p x hc hu
theorem Zz.keep2 {W W2 : World} {g : Bool} {s : Value} {z : Int} {k : Nat} (hb : Below W.heap.size W W2) (h : Zz W g s z k) : Zz W2 g s z k := h.keep hb
theorem Zz.al {W : World} {g : Bool} {s : Value} {z : Int} {k : Nat} {o : Obj} (h : Zz W g s z k) : Zz (W.alloc o) g s z k := h.keep (blw_one _ _)
theorem Zz.dr {W : World} {g : Bool} {s : Value} {z : Int} {k : Nat} (h : Zz W g s z k) : Zz W.drew g s z k := h.keep (blw_drew (Below.refl _ _))
theorem Zz.drN {W : World} {g : Bool} {s : Value} {z : Int} {k : Nat} {j : Nat} (h : Zz W g s z k) : Zz (W.drewN j) g s z k := h.keep (blw_drewN (Below.refl _ _) j)
theorem Zi.set {W : World} {g : Bool} {s : Value} {z : Int} {k : Nat} (h : Zi W g s z k) (p : Addr) (x : Value) {u : Value} (hc : W.cell? p = some u) (hu : isDigit32 u = false) : Zi (W.setCell p x) g s z k := by
  obtain ⟨n, h1, h2⟩ := h
  exact ⟨n, h1.set p x hc hu, h2⟩
theorem Zi.set2 {W : World} {g : Bool} {s : Value} {z : Int} {k : Nat} {p : Addr} {x u : Value} (hc : W.cell? p = some u) (hu : isDigit32 u = false) (h : Zi W g s z k) : Zi (W.setCell p x) g s z k := h.set p x hc hu
theorem Zi.keep2 {W W2 : World} {g : Bool} {s : Value} {z : Int} {k : Nat} (hb : Below W.heap.size W W2) (h : Zi W g s z k) : Zi W2 g s z k := h.keep hb
theorem Zi.al {W : World} {g : Bool} {s : Value} {z : Int} {k : Nat} {o : Obj} (h : Zi W g s z k) : Zi (W.alloc o) g s z k := h.keep (blw_one _ _)
theorem Zi.dr {W : World} {g : Bool} {s : Value} {z : Int} {k : Nat} (h : Zi W g s z k) : Zi W.drew g s z k := h.keep (blw_drew (Below.refl _ _))
theorem Zi.drN {W : World} {g : Bool} {s : Value} {z : Int} {k : Nat} {j : Nat} (h : Zi W g s z k) : Zi (W.drewN j) g s z k := h.keep (blw_drewN (Below.refl _ _) j)
theorem Zz.cast {w : World} {g : Bool} {s : Value} {z z' : Int} {k k' : Nat} (h : Zz w g s z k) (e : z = z') (hk : k ≤ k') : Zz w g s z' k' := by
  subst e; exact ⟨h.1, h.2.mono hk⟩
theorem Zi.shape {w : World} {g : Bool} {s : Value} {z : Int} {k : Nat} (h : Zi w g s z k) : ∃ a l c, s = .slice a l c := by
  obtain ⟨n, h1, h2⟩ := h
  exact h1.shape
theorem dec_pos {n : Nat} : decide (0 < (nf n).length) = decide (n ≠ 0) := decide_eq_decide.2 nflen_pos
def RetZ (w : World) (z : Int) (k : Nat) (e : Ending) (w' : World) : Prop := ∃ g a l c, e = .returned (.agg #[.bool g, .slice a l c]) ∧ Zz w' g (.slice a l c) z k ∧ Below w.heap.size w w'
/-- The sign that a normal integer's struct bears. -/
theorem Zz.mk' {w : World} {g : Bool} {a : Option Addr} {l c n k : Nat} (h : Nn w (.slice a l c) n k) : Zz w (g && decide (0 < l)) (.slice a l c) (sgn g n) k := by
  refine ⟨?_, by rw [sgn_abs]; exact h⟩
  rw [h.len, dec_pos]
  cases g
  · simp [sgn]
  · by_cases h0 : n = 0 <;> simp [sgn_true, h0]; omega

/-- The sign of an integer. -/
def isgn (x : Int) : Int := if x < 0 then -1 else if 0 < x then 1 else 0
theorem nbits_eq0 {m : Nat} (h : m = 0) : (((nbits m : Nat) : Int) == 0) = true := by subst h; rfl
theorem nbits_pos' {m : Nat} (h : m ≠ 0) : (((nbits m : Nat) : Int) == 0) = false := by
  rw [nbits_pos h, beq_eq_false_iff_ne]
  have h1 := nf_len_pos h
  have h2 := nf_last m h
  have h3 := (blen_ge (by have := dig_get (dig_nf m) ((nf m).length - 1); omega) h2).1
  omega
/-- How two integers compare. -/
def icmp (x y : Int) : Int := if x < y then -1 else if y < x then 1 else 0
theorem icmp_lt {x y : Int} (h : x < y) : icmp x y = -1 := by unfold icmp; rw [if_pos h]
theorem icmp_gt {x y : Int} (h : y < x) : icmp x y = 1 := by unfold icmp; rw [if_neg (by omega), if_pos h]
theorem icmp_eq {x y : Int} (h : x = y) : icmp x y = 0 := by unfold icmp; rw [if_neg (by omega), if_neg (by omega)]
theorem isgn_cases (x : Int) : (x < 0 ∧ isgn x = -1) ∨ (x = 0 ∧ isgn x = 0) ∨ (0 < x ∧ isgn x = 1) := by
  unfold isgn
  rcases Int.lt_trichotomy x 0 with h | h | h
  · exact .inl ⟨h, by rw [if_pos h]⟩
  · exact .inr (.inl ⟨h, by rw [if_neg (by omega), if_neg (by omega)]⟩)
  · exact .inr (.inr ⟨h, by rw [if_neg (by omega), if_pos h]⟩)
theorem cmpN_cases (m n : Nat) : (m < n ∧ cmpN m n = -1) ∨ (m = n ∧ cmpN m n = 0) ∨ (n < m ∧ cmpN m n = 1) := by
  rcases Nat.lt_trichotomy m n with h | h | h
  · exact .inl ⟨h, cmpN_lt h⟩
  · exact .inr (.inl ⟨h, cmpN_eq h⟩)
  · exact .inr (.inr ⟨h, cmpN_gt h⟩)
theorem sgn_neg {g : Bool} {m : Nat} (h : sgn g m < 0) : sgn g m = -(m : Int) := by cases g <;> simp [sgn] at * <;> omega
theorem sgn_pos {g : Bool} {m : Nat} (h : 0 < sgn g m) : sgn g m = (m : Int) := by cases g <;> simp [sgn] at * <;> omega
theorem sgn_zero {g : Bool} {m : Nat} (h : sgn g m = 0) : m = 0 := by cases g <;> simp [sgn] at * <;> omega
/-- What Cmp comes to when both signs and the order of the amounts are known. -/
theorem icmp_of {g1 g2 : Bool} {m n : Nat} {s t c : Int} (hs : isgn (sgn g1 m) = s) (ht : isgn (sgn g2 n) = t) (hc : cmpN m n = c) :
    (s < t → icmp (sgn g1 m) (sgn g2 n) = -1) ∧ (t < s → icmp (sgn g1 m) (sgn g2 n) = 1) ∧ (s = t → icmp (sgn g1 m) (sgn g2 n) = s * c) := by
  subst hs ht hc
  rcases isgn_cases (sgn g1 m) with ⟨h1, e1⟩ | ⟨h1, e1⟩ | ⟨h1, e1⟩ <;> rcases isgn_cases (sgn g2 n) with ⟨h2, e2⟩ | ⟨h2, e2⟩ | ⟨h2, e2⟩ <;> rw [e1, e2]
  · rw [sgn_neg h1, sgn_neg h2]
    rcases cmpN_cases m n with ⟨h3, e3⟩ | ⟨h3, e3⟩ | ⟨h3, e3⟩ <;> rw [e3]
    · rw [icmp_gt (by omega)]; omega
    · rw [icmp_eq (by omega)]; omega
    · rw [icmp_lt (by omega)]; omega
  · rw [icmp_lt (by omega)]; omega
  · rw [icmp_lt (by omega)]; omega
  · rw [icmp_gt (by omega)]; omega
  · rw [icmp_eq (by omega)]; omega
  · rw [icmp_lt (by omega)]; omega
  · rw [icmp_gt (by omega)]; omega
  · rw [icmp_gt (by omega)]; omega
  · rw [sgn_pos h1, sgn_pos h2]
    rcases cmpN_cases m n with ⟨h3, e3⟩ | ⟨h3, e3⟩ | ⟨h3, e3⟩ <;> rw [e3]
    · rw [icmp_lt (by omega)]; omega
    · rw [icmp_eq (by omega)]; omega
    · rw [icmp_gt (by omega)]; omega
theorem isgn_bd (x : Int) : -1 ≤ isgn x ∧ isgn x ≤ 1 := by
  rcases isgn_cases x with ⟨_, e⟩ | ⟨_, e⟩ | ⟨_, e⟩ <;> rw [e] <;> omega
theorem cmpN_bd (m n : Nat) : -1 ≤ cmpN m n ∧ cmpN m n ≤ 1 := by
  rcases cmpN_cases m n with ⟨_, e⟩ | ⟨_, e⟩ | ⟨_, e⟩ <;> rw [e] <;> omega
theorem mul_bd1 {s c : Int} (h1 : -1 ≤ s ∧ s ≤ 1) (h2 : -1 ≤ c ∧ c ≤ 1) : -1 ≤ s * c ∧ s * c ≤ 1 := by
  obtain ⟨a, b⟩ := h1
  have : s = -1 ∨ s = 0 ∨ s = 1 := by omega
  rcases this with rfl | rfl | rfl <;> omega
theorem wrap_negneg {x : Int} (h1 : -9223372036854775808 ≤ x) (h0 : x < 0) : IntKind.u64.wrap (-IntKind.u64.wrap x) = ((x.natAbs : Nat) : Int) := by
  rw [IntKind.wrap_u64, IntKind.wrap_u64]; omega
theorem wrap_back {m : Nat} (h : m ≤ 9223372036854775808) : wrap64 (IntKind.u64.wrap (-(m : Int))) = -(m : Int) := by
  rw [IntKind.wrap_u64]
  unfold wrap64
  omega
theorem fromUintI {w : World} {x : Int} (h0 : 0 ≤ x) (h : x < 18446744073709551616) : Calls Tryz.prog 217 #[.int .u64 x] w (RetN w x.natAbs 2) := by
  obtain ⟨n, rfl⟩ := Int.eq_ofNat_of_zero_le h0
  exact fromUintW (by omega)
/-- What Int64 returns. -/
def int64V (x : Int) : Value := .tuple #[.int .i64 (if -9223372036854775808 ≤ x ∧ x < 9223372036854775808 then x else 0), .bool (decide (-9223372036854775808 ≤ x ∧ x < 9223372036854775808))]
theorem int64V_in {x : Int} (h : -9223372036854775808 ≤ x ∧ x < 9223372036854775808) : int64V x = .tuple #[.int .i64 x, .bool true] := by
  unfold int64V; rw [if_pos h, decide_eq_true h]
theorem int64V_out {x : Int} (h : ¬ (-9223372036854775808 ≤ x ∧ x < 9223372036854775808)) : int64V x = .tuple #[.int .i64 0, .bool false] := by
  unfold int64V; rw [if_neg h, decide_eq_false h]
end Go.Proofs.YtdlnoeegboapkaaGreatDoor

/- Integers: the contracts of DivMod and Normal. printed by a small program (mkint2.py). -/
namespace Go.Proofs.YtdlnoeegboapkaaGreatDoor
open Go.RowKit

theorem dm_pos {g2 : Bool} {m n : Nat} : sgn g2 (m / n) = (m : Int) / sgn g2 n ∧ ((m % n : Nat) : Int) = (m : Int) % sgn g2 n := by
  cases g2
  · simp [sgn]
  · simp [sgn, Int.ediv_neg]
theorem dm_neg0 {g2 : Bool} {m n : Nat} (hn : n ≠ 0) (h : m % n = 0) : sgn (!g2) (m / n) = -(m : Int) / sgn g2 n ∧ ((m % n : Nat) : Int) = -(m : Int) % sgn g2 n := by
  have e1 : (m : Int) = n * ((m / n : Nat) : Int) := by
    have := Nat.div_add_mod m n
    rw [h, Nat.add_zero] at this
    rw [← Int.natCast_mul, this]
  have e2 : (-(m : Int)) / (n : Int) = -((m / n : Nat) : Int) ∧ (-(m : Int)) % (n : Int) = 0 := by
    have hu : (-(m : Int)) = (n : Int) * (-((m / n : Nat) : Int)) := by rw [Int.mul_neg, ← e1]
    rw [hu]
    exact ⟨Int.mul_ediv_cancel_left _ (by omega), Int.mul_emod_right _ _⟩
  rw [h]
  cases g2
  · simp only [sgn_false, Bool.not_false, sgn_true]
    exact ⟨e2.1.symm, e2.2.symm⟩
  · simp only [sgn_false, Bool.not_true, sgn_true, Int.ediv_neg, Int.emod_neg]
    exact ⟨by rw [e2.1, Int.neg_neg], e2.2.symm⟩
theorem dm_neg {g2 : Bool} {m n : Nat} (hn : n ≠ 0) (h : m % n ≠ 0) : sgn (!g2) (m / n + 1) = -(m : Int) / sgn g2 n ∧ ((n - m % n : Nat) : Int) = -(m : Int) % sgn g2 n := by
  have hlt := Nat.mod_lt m (Nat.pos_of_ne_zero hn)
  have e1 : (m : Int) = n * ((m / n : Nat) : Int) + ((m % n : Nat) : Int) := by
    have := Nat.div_add_mod m n
    rw [← Int.natCast_mul, ← Int.natCast_add, this]
  generalize m / n = q at *
  generalize m % n = r at *
  have e2 : (-(m : Int)) / (n : Int) = -((q : Int) + 1) ∧ (-(m : Int)) % (n : Int) = (n : Int) - r := by
    refine (Int.ediv_emod_unique (by omega)).2 ⟨?_, by omega, by omega⟩
    rw [e1, Int.mul_neg, Int.mul_add, Int.mul_one]
    omega
  cases g2
  · simp only [sgn_false, Bool.not_false, sgn_true]
    exact ⟨by rw [e2.1]; omega, by rw [e2.2]; omega⟩
  · simp only [sgn_false, Bool.not_true, sgn_true, Int.ediv_neg, Int.emod_neg]
    exact ⟨by rw [e2.1]; omega, by rw [e2.2]; omega⟩
/-- What DivMod returns. -/
def DivZ (w : World) (x y : Int) (k : Nat) (e : Ending) (w' : World) : Prop :=
  ∃ g a l c g2 a2 l2 c2, e = .returned (.tuple #[.agg #[.bool g, .slice a l c], .agg #[.bool g2, .slice a2 l2 c2], .bool (decide (y ≠ 0))]) ∧
    Zz w' g (.slice a l c) (x / y) k ∧ Zz w' g2 (.slice a2 l2 c2) (if y = 0 then 0 else x % y) k ∧ Below w.heap.size w w'
theorem Zz.zero (w : World) (k : Nat) : Zz w false (.slice none 0 0) 0 k := ⟨rfl, Nn.nil w k⟩
theorem sgn_eq0 {g : Bool} {n : Nat} : sgn g n = 0 ↔ n = 0 := by cases g <;> simp [sgn]

end Go.Proofs.YtdlnoeegboapkaaGreatDoor

/- What an argument of a law reads as, and the contract of the laws' guard 'Small'. -/
namespace Go.Proofs.YtdlnoeegboapkaaGreatDoor
open Go.RowKit

/-- What the laws' frame tells of a slice of integers that came in. -/
def IsRow (k : IntKind) (w : World) (a : Option Addr) (len cap : Nat) (zs : List Int) : Prop :=
  (a = none ∧ len = 0 ∧ cap = 0 ∧ zs = []) ∨
  ∃ x, a = some x ∧ len ≤ cap ∧ cap ≤ maxLen ∧ zs.length = cap ∧ (∀ i, i < zs.length → w.cell? (x.add i) = some (.int k (zs.getD i 0))) ∧ ∀ n ∈ zs, (Lit.int k n).wf = true

theorem wf_u32 {n : Int} (h : (Lit.int .u32 n).wf = true) : 0 ≤ n ∧ n < 4294967296 := by
  have h2 : 0 ≤ n ∧ n ≤ 4294967295 := by simpa [Lit.wf, IntKind.min, IntKind.max, IntKind.signed, IntKind.bits] using h
  omega
theorem wf_u64 {n : Int} (h : (Lit.int .u64 n).wf = true) : 0 ≤ n ∧ n < 18446744073709551616 := by
  have h2 : 0 ≤ n ∧ n ≤ 18446744073709551615 := by simpa [Lit.wf, IntKind.min, IntKind.max, IntKind.signed, IntKind.bits] using h
  omega
theorem wf_i64 {n : Int} (h : (Lit.int .i64 n).wf = true) : -9223372036854775808 ≤ n ∧ n < 9223372036854775808 := by
  have h2 : -9223372036854775808 ≤ n ∧ n ≤ 9223372036854775807 := by simpa [Lit.wf, IntKind.min, IntKind.max, IntKind.signed, IntKind.bits] using h
  omega
/-- A slice of digits that came in reads as a list of digits. -/
theorem rd_of_row {w : World} {a : Option Addr} {len cap : Nat} {zs : List Int} (h : IsRow .u32 w a len cap zs) : ∃ l, l.length = len ∧ Rd w (.slice a len cap) l := by
  rcases h with ⟨rfl, rfl, rfl, rfl⟩ | ⟨x, rfl, hl, hm, hz, hcell, hwz⟩
  · exact ⟨[], rfl, Rd.nil w⟩
  · have hlen : ((zs.take len).map Int.toNat).length = len := by
      rw [List.length_map, List.length_take]; omega
    refine ⟨(zs.take len).map Int.toNat, hlen, some x, cap, by rw [hlen], by omega, by unfold maxLen at hm; omega, ?_, fun h0 => ?_⟩
    · intro d hd
      obtain ⟨n, hn, rfl⟩ := List.mem_map.1 hd
      have := wf_u32 (hwz n (List.mem_of_mem_take hn))
      omega
    · rw [hlen] at h0 ⊢
      obtain ⟨b, off, spot⟩ := x
      have hspot : spot = none := by simpa [Addr.add] using World.cell?_spot (hcell 0 (by omega))
      subst hspot
      refine ⟨b, off, rfl, fun i hi => ?_⟩
      have hc := hcell i (by omega)
      rw [addr_plain] at hc
      have hw := wf_u32 (hwz (zs[i]'(by omega)) (List.getElem_mem _))
      have e1 : zs.getD i 0 = zs[i]'(by omega) := by rw [List.getD_eq_getElem?_getD, List.getElem?_eq_getElem (by omega)]; rfl
      have e2 : ((zs.take len).map Int.toNat).getD i 0 = (zs[i]'(by omega)).toNat := by
        rw [List.getD_eq_getElem?_getD, List.getElem?_map, List.getElem?_take, if_pos hi, List.getElem?_eq_getElem (by omega)]; rfl
      rw [hc, e1, e2, Int.toNat_of_nonneg hw.1]

/-- All of the first m lengths are at most n. -/
def smallB (ls : Nat → Nat) (m n : Nat) : Bool := decide (∀ i, i < m → ls i ≤ n)
theorem smallB_true {ls : Nat → Nat} {m n : Nat} (h : ∀ i, i < m → ls i ≤ n) : smallB ls m n = true := decide_eq_true h
theorem smallB_false {ls : Nat → Nat} {m n k : Nat} (hk : k < m) (h : n < ls k) : smallB ls m n = false := decide_eq_false fun hh => by
  have := hh k hk; omega

end Go.Proofs.YtdlnoeegboapkaaGreatDoor

/- The tape of ints from which the laws make their arguments: what it is in memory, and the contracts of its methods Next and Nat, of New and of Nats. -/
namespace Go.Proofs.YtdlnoeegboapkaaGreatDoor
open Go.RowKit
set_option maxRecDepth 100000
set_option maxHeartbeats 40000000
set_option synthInstance.maxSize 100000
set_option synthInstance.maxHeartbeats 1000000

/-- Block g holds a tape: a list of at most 400 ints in an older block, and a place in it. -/
def TapeAt (w : World) (g : Nat) : Prop :=
  ∃ (a : Option Addr) (n c at_ : Nat) (zs : List Int), w.heap[g]? = some (.cells #[.slice a n c, .int .i64 (at_ : Int)] 108 (0, 0)) ∧ n ≤ 400 ∧ at_ ≤ n ∧ zs.length = n ∧
    (∀ z ∈ zs, -9223372036854775808 ≤ z ∧ z < 9223372036854775808) ∧
    (0 < n → ∃ b off, a = some ⟨b, off, none⟩ ∧ b < g ∧ ∀ i, i < n → w.cell? ⟨b, off + i, none⟩ = some (.int .i64 (zs.getD i 0)))

theorem heap_lt {w : World} {k : Nat} {o : Obj} (h : w.heap[k]? = some o) : k < w.heap.size := by
  rcases Nat.lt_or_ge k w.heap.size with hlt | hge
  · exact hlt
  · rw [Array.getElem?_eq_none hge] at h; cases h
theorem TapeAt.lt {w : World} {g : Nat} (h : TapeAt w g) : g < w.heap.size := by
  obtain ⟨a, n, c, at_, zs, hh, _⟩ := h
  exact heap_lt hh
theorem TapeAt.same {w w' : World} {g : Nat} (h : TapeAt w g) (hs : ∀ k, k ≤ g → w'.heap[k]? = w.heap[k]?) : TapeAt w' g := by
  obtain ⟨a, n, c, at_, zs, hh, h1, h2, h3, h4, h5⟩ := h
  refine ⟨a, n, c, at_, zs, (hs g (Nat.le_refl _)).trans hh, h1, h2, h3, h4, fun h0 => ?_⟩
  obtain ⟨b, off, e, hb, hc⟩ := h5 h0
  exact ⟨b, off, e, hb, fun i hi => (World.cell?_of_block (hs b (by omega))).trans (hc i hi)⟩
theorem TapeAt.keep {w w' : World} {g : Nat} (h : TapeAt w g) (hb : Below w.heap.size w w') : TapeAt w' g :=
  h.same fun k hk => hb.block k (Nat.lt_of_le_of_lt hk h.lt)

theorem gb_refl (w : World) (row : Option Nat) : w.grownBy w row := ⟨rfl, rfl, rfl, Nat.le_refl _, fun _ _ _ => rfl⟩
theorem gb_trans {a b c : World} {row : Option Nat} (h : a.grownBy b row) (k : b.grownBy c row) : a.grownBy c row :=
  ⟨k.os.trans h.os, k.tape.trans h.tape, k.output.trans h.output, Nat.le_trans h.size k.size, fun i hi hr => (k.block i (Nat.lt_of_lt_of_le hi h.size) hr).trans (h.block i hi hr)⟩
theorem gb_below {a b c : World} {row : Option Nat} (h : a.grownBy b row) (k : Below b.heap.size b c) : a.grownBy c row :=
  ⟨k.os.trans h.os, k.tape.trans h.tape, k.output.trans h.output, Nat.le_trans h.size k.size, fun i hi hr => (k.block i (Nat.lt_of_lt_of_le hi h.size)).trans (h.block i hi hr)⟩
theorem gb_row {a b c : World} {row row' : Option Nat} (h : a.grownBy b row) (k : b.grownBy c row') (hr' : ∀ i, row' = some i → a.heap.size ≤ i) : a.grownBy c row :=
  ⟨k.os.trans h.os, k.tape.trans h.tape, k.output.trans h.output, Nat.le_trans h.size k.size, fun i hi hr => (k.block i (Nat.lt_of_lt_of_le hi h.size) (fun e => by have := hr' i e.symm; omega)).trans (h.block i hi hr)⟩
theorem gb_to_below {a b : World} {g : Nat} (h : a.grownBy b (some g)) (hg : a.heap.size ≤ g) : Below a.heap.size a b :=
  ⟨h.os, h.tape, h.output, h.size, fun i hi => h.block i hi (fun e => by injection e with e; omega)⟩
theorem below_gb {a b : World} {row : Option Nat} (h : Below a.heap.size a b) : a.grownBy b row :=
  ⟨h.os, h.tape, h.output, h.size, fun i hi _ => h.block i hi⟩
theorem blw_tp {w a b : World} {g : Nat} (h : Below w.heap.size w a) (hg : a.grownBy b (some g)) (hgw : w.heap.size ≤ g) : Below w.heap.size w b :=
  ⟨hg.os.trans h.os, hg.tape.trans h.tape, hg.output.trans h.output, Nat.le_trans h.size hg.size, fun i hi => (hg.block i (Nat.lt_of_lt_of_le hi h.size) (fun e => by injection e with e; omega)).trans (h.block i hi)⟩
/-- What is owned is not the tape: the tape may be read on. -/
theorem Own.tp {w w' : World} {base g : Nat} {v : Value} {l : List Nat} (h : Own w base v l) (ht : TapeAt w g) (hg : w.grownBy w' (some g)) : Own w' base v l := by
  refine ⟨h.1, World.ownsRow.kept h.2 hg ?_⟩
  rcases h.2.2 with ⟨rfl, _⟩ | ⟨b, cap, cur, rfl, _, hh, _⟩
  · exact .inl rfl
  · refine .inr fun e => ?_
    simp only [Value.ownBlock, Option.some.injEq] at e
    subst e
    obtain ⟨a, n, c, at_, zs, hh', _⟩ := ht
    rw [hh] at hh'
    injection hh' with h1
    injection h1 with _ h2
    exact absurd h2 (by decide)

theorem tmod_pos {z n : Int} (hn : 0 < n) : z.tmod n < n := Int.tmod_lt_of_pos z hn
theorem tmod_neg {z n : Int} (hn : 0 < n) : -n < z.tmod n := by
  rcases Int.lt_or_le z 0 with h0 | h0
  · have e : z.tmod n = -((-z).tmod n) := by rw [Int.neg_tmod, Int.neg_neg]
    have := Int.tmod_lt_of_pos (-z) hn
    omega
  · have := Int.tmod_nonneg n h0
    omega

/-- Next returns some number below n, and goes on. -/
theorem next_any (w : World) (g n : Nat) (hn : 0 < n) (hn2 : n ≤ 1000000) (ht : TapeAt w g) :
    Calls Tryz.prog 26 #[.pointer (some ⟨g, 0, none⟩), .int .i64 (n : Int)] w fun e w' => ∃ v : Nat, v < n ∧ e = .returned (.int .i64 (v : Int)) ∧ TapeAt w' g ∧ w.grownBy w' (some g) := by
  have ht' := ht
  obtain ⟨a, m, c, k, zs, hh, h1, h2, h3, h4, h5⟩ := ht
  have c0 : w.cell? ⟨g, 0, none⟩ = some (.slice a m c) := by rw [cell_of_row w g 0 _ _ _ hh]; rfl
  have c1 : w.cell? ⟨g, 1, none⟩ = some (.int .i64 (k : Int)) := by rw [cell_of_row w g 1 _ _ _ hh]; rfl
  have f1 : w.frozen? ⟨g, 1, none⟩ = false := frozen_of_row w g 1 _ _ hh
  have HT := Lib.hid ht'
  have HH := Lib.hid hh
  clear hh ht'
  go_enter Tryz.func26, Tryz.ntmps26
  by_cases hk : m ≤ k
  · go_wp2
    go_quiet (fail)
    go_wp2
    go_ret
    exact ⟨0, hn, rfl, HT.out.same fun _ _ => rfl, ⟨rfl, rfl, rfl, Nat.le_refl _, fun _ _ _ => rfl⟩⟩
  · obtain ⟨b, off, rfl, hb, hc⟩ := h5 (by omega)
    have ck := hc k (by omega)
    have hz := h4 (zs.getD k 0) (by
      rw [List.getD_eq_getElem?_getD, List.getElem?_eq_getElem (by omega)]; exact List.getElem_mem _)
    generalize zs.getD k 0 = z at *
    have b0 : (0 : Int) ≤ (k : Int) := by omega
    have b1 : (k : Int) < (m : Int) := by omega
    have hn3 : (0 : Int) < (n : Int) := by omega
    have t1 := @tmod_pos z (n : Int) hn3
    have t2 := @tmod_neg z (n : Int) hn3
    clear hc
    go_wp2
    go_quiet (fail)
    go_wp2
    go_quiet (fail)
    go_wp2
    all_goals go_ret
    all_goals
      have hfin : ∀ nq : Nat, TapeAt ((w.drewN nq).setCell ⟨g, 1, none⟩ (.int .i64 ((k : Int) + 1))) g ∧ w.grownBy ((w.drewN nq).setCell ⟨g, 1, none⟩ (.int .i64 ((k : Int) + 1))) (some g) := fun nq => by
        have hh2 : (w.drewN nq).heap[g]? = some (.cells #[.slice (some ⟨b, off, none⟩) m c, .int .i64 (k : Int)] 108 (0, 0)) := HH.out
        refine ⟨⟨some ⟨b, off, none⟩, m, c, k + 1, zs, ?_, h1, by omega, h3, h4, fun h0 => ?_⟩, ?_⟩
        · rw [heap_setCell_same _ g 1 _ _ _ hh2]; rfl
        · obtain ⟨b', off', e, hb', hc⟩ := h5 h0
          refine ⟨b', off', e, hb', fun i hi => ?_⟩
          rw [World.cell?_setCell_other _ _ _ _ (fun e2 => by injection e2 with e3; omega)]
          exact hc i hi
        · exact ⟨rfl, rfl, rfl, by simp, fun i hi hr => heap_setCell_other _ ⟨g, 1, none⟩ i _ (fun e => hr (by rw [e]))⟩
    · have hy : z.tmod (n : Int) < 0 := by assumption
      refine ⟨(z.tmod (n : Int) + (n : Int)).toNat, by omega, ?_, (hfin _).1, (hfin _).2⟩
      rw [Int.toNat_of_nonneg (by omega)]; rfl
    · have hy : 0 ≤ z.tmod (n : Int) := by assumption
      refine ⟨(z.tmod (n : Int)).toNat, by omega, ?_, (hfin _).1, (hfin _).2⟩
      rw [Int.toNat_of_nonneg (by omega)]; rfl

/-- append of one digit that has been laid in a block of its own; the tape, an older block, is not touched. -/
theorem app_digit (w0 w : World) {ops : Array Oper} {rest : List Oper} {o : Oper} {a : Act} {Q : Exit → Act → World → Prop} (hg : o.guard = none) (s x : Operand) (t t' : TypeId)
    (hop : o.op = .call { callee := .builtin .append, args := #[s, x], argTypes := #[t, t'] })
    (ht : Tryz.prog.underlying t = some (.slice 106)) (ht' : Tryz.prog.underlying t' = some (.slice 106)) (v : Value) (l : List Nat) (d g : Nat) (cs : Array Value) (hcs : cs = #[.int .u32 (d : Int)]) (hd : d < 4294967296)
    (hs : a.eval s = v) (hx : a.eval x = .slice (some ⟨w.heap.size, 0, none⟩) 1 1)
    (ho : Own w w0.heap.size v l) (hlen : l.length ≤ 1000000) (htp : TapeAt w g) (hgw : g < w0.heap.size) (hb : w0.grownBy w (some g))
    (hK : ∀ v' w', Own w' w0.heap.size v' (l ++ [d]) → TapeAt w' g → w0.grownBy w' (some g) → wpList Tryz.prog ops Q rest (a.put o.dst v') w') :
    wpList Tryz.prog ops Q (o :: rest) a (w.alloc (.cells cs 106)) := by
  have hB0 : Below w.heap.size w (w.alloc (.cells cs 106)) := blw_one w _
  refine app_u32 _ hg s x t t' hop ht ht' w0.heap.size v _ l [d] hs hx (ho.keep hB0) (rd_lit (w := w) rfl [d] (dig1 hd) (by simp) cs hcs 1 rfl) (by simp; omega) (by have := hb.size; simp; omega) ?_
  intro v' w' o1 g1 _
  refine hK v' w' o1 ?_ ?_
  · refine htp.same fun k hk => ?_
    have hk2 : k < w.heap.size := Nat.lt_of_le_of_lt hk htp.lt
    rw [g1.block k (by simp; omega) (fun e => by have := ho.2.lt k e.symm; omega), Below.heap_alloc w _ k hk2]
  · exact gb_row (gb_below hb hB0) g1 fun i hi => (ho.2.lt i hi).1

theorem or_lt32 (x y : Nat) (hx : x < 65536) (hy : y < 65536) : bits .or .u32 ((x : Int) * 65536) (y : Int) = ((x * 65536 ||| y : Nat) : Int) ∧ x * 65536 ||| y < 4294967296 := by
  have h : x * 65536 ||| y < 2 ^ 32 := Nat.or_lt_two_pow (by omega) (by omega)
  have h2 := u32_or_nat (x * 65536) y (by omega) (by omega)
  refine ⟨?_, by simpa using h⟩
  rw [← h2, Int.natCast_mul]
  rfl

/-- Own of the digits, and the tape still there. -/
def TapeNat (w : World) (g d : Nat) (e : Ending) (w' : World) : Prop :=
  ∃ z m, e = .returned z ∧ Own w' w.heap.size z (nf m) ∧ (nf m).length ≤ d ∧ TapeAt w' g ∧ w.grownBy w' (some g)


/-- New makes a tape of a list of ints. -/
theorem new_any (a0 : Option Addr) (len0 cap0 : Nat) (z0 : List Int) (w : World) (w0 : IsRow .i64 w a0 len0 cap0 z0) :
    Calls Tryz.prog 12 #[.slice a0 len0 cap0] w fun e w' => e = .returned (.pointer (some ⟨w.heap.size, 0, none⟩)) ∧ TapeAt w' w.heap.size ∧ Below w.heap.size w w' := by
  have hc : len0 ≤ cap0 ∧ cap0 ≤ 9223372036854775807 := by
    rcases w0 with ⟨_, rfl, rfl, _⟩ | ⟨x, _, h1, h2, _⟩
    · omega
    · unfold maxLen at h2; omega
  have fin : ∀ n, n = min len0 400 → TapeAt (w.alloc (.cells #[.slice a0 n cap0, .int .i64 0] 108)) w.heap.size := by
    intro n hn
    refine ⟨a0, n, cap0, 0, z0.take n, heap_alloc_new w _, by omega, by omega, ?_, ?_, fun h0 => ?_⟩
    · rcases w0 with ⟨_, rfl, rfl, rfl⟩ | ⟨x, _, h1, h2, h3, _⟩
      · simp at hn; subst hn; rfl
      · rw [List.length_take]; omega
    · intro z hz
      rcases w0 with ⟨_, _, _, rfl⟩ | ⟨x, _, h1, h2, h3, h4, h5⟩
      · simp at hz
      · exact wf_i64 (h5 z (List.mem_of_mem_take hz))
    · rcases w0 with ⟨_, rfl, rfl, rfl⟩ | ⟨x, rfl, h1, h2, h3, h4, h5⟩
      · omega
      · obtain ⟨b, off, spot⟩ := x
        have hspot : spot = none := by simpa [Addr.add] using World.cell?_spot (h4 0 (by omega))
        subst hspot
        have hlt : b < w.heap.size := by
          have := lt_of_cell (h4 0 (by omega))
          simpa [Addr.add] using this
        refine ⟨b, off, rfl, hlt, fun i hi => ?_⟩
        rw [World.cell?_alloc_past _ _ _ hlt]
        have hc := h4 i (by omega)
        rw [addr_plain] at hc
        rw [hc]
        congr 2
        rw [List.getD_eq_getElem?_getD, List.getD_eq_getElem?_getD, List.getElem?_take, if_pos hi]
  by_cases h4 : len0 ≤ 400
  · have hmin : min (len0 : Int) 400 = (len0 : Int) := by omega
    have hf := fin len0 (by omega)
    clear fin w0
    go_enter Tryz.func12, Tryz.ntmps12
    go_wp2
    go_ret
    exact ⟨rfl, hf, blw_one _ _⟩
  · have hmin : min (len0 : Int) 400 = 400 := by omega
    have hf := fin 400 (by omega)
    clear fin w0
    go_enter Tryz.func12, Tryz.ntmps12
    go_wp2
    go_ret
    exact ⟨rfl, hf, blw_one _ _⟩

/-- Nats copies a number's digits and appends k mod 3 zeros. -/
theorem nats_any (w : World) (v : Value) (l : List Nat) (k : Nat) (hk : k ≤ 1000000) (h : Rd w v l) (hl : l.length ≤ 1000000) :
    Calls Tryz.prog 61 #[v, .int .i64 (k : Int)] w fun e w' => ∃ z, e = .returned z ∧ Own w' w.heap.size z (l ++ List.replicate (k % 3) 0) ∧ Below w.heap.size w w' := by
  have hB0 : Below w.heap.size w (w.alloc (.cells #[] 106)) := blw_one w _
  go_enter Tryz.func61, Tryz.ntmps61
  go_wp2_with (at_builtin; go_loud (refine app_u32 _ rfl (.tmp 7) (.tmp 8) 25 41 rfl Tryz.underlying25 Tryz.underlying41 w.heap.size _ _ [] l rfl rfl (own_lit w [] dig_nil (by simp) _ rfl) (h.keep hB0) (by simp; omega) (by simp) ?_); intro v1 w1 o1 g1 _)
  have B1 := own_grown (own_lit w [] dig_nil (by simp) _ rfl) hB0 g1 (Nat.le_refl _)
  rw [List.nil_append] at o1
  go_loopw [5, 6] (fun o i wr => ∃ j : Nat, j ≤ k % 3 ∧ i = .int .i64 j ∧ Own wr w.heap.size o (l ++ List.replicate j 0) ∧ Below w.heap.size w wr) (fun _ i _ => k % 3 - (intOf i).toNat)
  case atStart => exact ⟨0, Nat.zero_le _, rfl, by simpa using o1, B1⟩
  case round =>
    obtain ⟨j, hj, rfl, hO, hB⟩ := hrel
    have hsz := hB.size
    by_cases hlt : j < k % 3
    · have hlen : (l ++ List.replicate j 0).length ≤ 1000003 := by simp; omega
      have hO2 := hO.keep (blw_one wr (.cells #[.int .u32 0] 106))
      have hB2 := blw_alloc hB (.cells #[.int .u32 0] 106)
      have hR := rd_lit (w := wr) rfl [0] (dig1 (by omega)) (by simp) #[.int .u32 0] rfl 1 rfl
      have e1 : (l ++ List.replicate j 0) ++ [0] = l ++ List.replicate (j + 1) 0 := by rw [List.append_assoc, List.replicate_succ']
      generalize l ++ List.replicate j 0 = L at *
      go_wp2_with (at_builtin; go_loud (refine app_u32 _ rfl (.tmp 16) (.tmp 17) 25 25 rfl Tryz.underlying25 Tryz.underlying25 w.heap.size _ _ L [0] rfl rfl hO2 hR (by simp; omega) (by simp; omega) ?_); intro v2 w2 o2 g2 _)
      have B2 := own_grown hO2 hB2 g2 (Nat.le_refl _)
      go_roundw
      case rel => exact ⟨j + 1, by omega, by go_num, by rw [← e1]; exact o2, B2⟩
      case measure => simp [intOf]; omega
    · obtain rfl : j = k % 3 := by omega
      go_wp2
      go_ret
      exact ⟨_, rfl, hO, hB⟩
theorem val_zeros (l : List Nat) (k : Nat) : val (l ++ List.replicate k 0) = val l := by rw [val_append, val_replicate]; simp
end Go.Proofs.YtdlnoeegboapkaaGreatDoor

/- Contract of nat.Sqrt: the greatest number whose square is at most a. -/
namespace Go.Proofs.YtdlnoeegboapkaaGreatDoor
open Go.RowKit

/-- r is the root of m. -/
def IsRoot (m r : Nat) : Prop := r * r ≤ m ∧ m < (r + 1) * (r + 1)
theorem isRoot_one {m r s : Nat} (h : IsRoot m r) (k : IsRoot m s) : r = s := by
  rcases Nat.lt_trichotomy r s with h1 | h1 | h1
  · exfalso
    have := Nat.mul_le_mul (show r + 1 ≤ s from h1) (show r + 1 ≤ s from h1)
    have := h.2; have := k.1; omega
  · exact h1
  · exfalso
    have := Nat.mul_le_mul (show s + 1 ≤ r from h1) (show s + 1 ≤ r from h1)
    have := h.1; have := k.2; omega
theorem nbits_lt (m : Nat) : m < 2 ^ nbits m := by
  by_cases hm : m = 0
  · subst hm; exact Nat.pow_pos (by omega)
  · rw [nbits_pos hm]
    have hp := nf_len_pos hm
    have hd := dig_get (dig_nf m) ((nf m).length - 1)
    have hb := blen_lt (x := (nf m).getD ((nf m).length - 1) 0) (by omega)
    have h1 := val_take_drop (nf m) ((nf m).length - 1) (by omega)
    have h2 := val_lt ((nf m).take ((nf m).length - 1)) (dig_take (dig_nf m) _)
    rw [List.length_take, Nat.min_eq_left (by omega)] at h2
    rw [val_drop_cons _ ((nf m).length - 1) (by omega), List.drop_eq_nil_of_le (by omega), val_nil, val_nf, Nat.mul_zero, Nat.add_zero] at h1
    generalize (nf m).getD ((nf m).length - 1) 0 = x at *
    generalize (nf m).length - 1 = k at *
    have h3 : (4294967296 : Nat) ^ k = 2 ^ (32 * k) := by rw [Nat.pow_mul]
    rw [Nat.pow_add, ← h3]
    have h4 : 4294967296 ^ k * (x + 1) ≤ 4294967296 ^ k * 2 ^ blen x := Nat.mul_le_mul_left _ hb
    rw [Nat.mul_add] at h4
    omega
theorem nbits_le {m c : Nat} (h : (nf m).length ≤ c) : nbits m ≤ 32 * c := by
  unfold nbits
  split
  · omega
  · have := blen_le32 (dig_get (dig_nf m) ((nf m).length - 1))
    have : (nf m).length ≠ 0 := by
      intro h0
      have := nf_eq_nil.1 (List.eq_nil_of_length_eq_zero h0)
      omega
    omega
/-- The first guess is not less than the root. -/
theorem sqrt_start (m : Nat) : m < (2 ^ ((nbits m + 1) / 2) + 1) * (2 ^ ((nbits m + 1) / 2) + 1) := by
  have h1 := nbits_lt m
  have h2 : 2 ^ nbits m ≤ 2 ^ ((nbits m + 1) / 2) * 2 ^ ((nbits m + 1) / 2) := by
    rw [← Nat.pow_add]; exact Nat.pow_le_pow_right (by omega) (by omega)
  have h3 : 2 ^ ((nbits m + 1) / 2) * 2 ^ ((nbits m + 1) / 2) ≤ (2 ^ ((nbits m + 1) / 2) + 1) * (2 ^ ((nbits m + 1) / 2) + 1) := Nat.mul_le_mul (by omega) (by omega)
  omega
theorem sqrt_stop {m x : Nat} (hx : 0 < x) (h : m < (x + 1) * (x + 1)) (hy : x ≤ (x + m / x) / 2) : IsRoot m x := by
  refine ⟨?_, h⟩
  have h1 : x ≤ m / x := by omega
  exact (Nat.le_div_iff_mul_le hx).1 h1
theorem sqrt_next {m x : Nat} (hx : 0 < x) (hm : 0 < m) : 0 < (x + m / x) / 2 ∧ m < ((x + m / x) / 2 + 1) * ((x + m / x) / 2 + 1) := by
  have h1 : m < (m / x + 1) * x := by
    have := Nat.lt_mul_div_succ m hx
    rw [Nat.mul_comm]; exact this
  generalize m / x = q at *
  have h2 : 4 * ((q + 1) * x) ≤ (x + q + 1) * (x + q + 1) := by
    rcases Nat.le_total x (q + 1) with h | h
    · obtain ⟨d, e⟩ := Nat.le.dest h
      have e2 : x + q + 1 = 2 * x + d := by omega
      rw [e2, ← e]
      have a1 : 4 * ((x + d) * x) = 4 * (x * x) + 4 * (x * d) := by rw [Nat.add_mul, Nat.mul_comm d x]; omega
      have a2 : (2 * x + d) * (2 * x + d) = 4 * (x * x) + 4 * (x * d) + d * d := by
        rw [Nat.mul_add, Nat.add_mul, Nat.add_mul, Nat.mul_comm d (2 * x), Nat.mul_assoc 2 x d, Nat.mul_assoc 2 x (2 * x), Nat.mul_left_comm x 2 x]
        omega
      omega
    · obtain ⟨d, e⟩ := Nat.le.dest h
      have e2 : x + q + 1 = 2 * (q + 1) + d := by omega
      rw [e2, ← e]
      generalize q + 1 = y
      have a1 : 4 * (y * (y + d)) = 4 * (y * y) + 4 * (y * d) := by rw [Nat.mul_add]; omega
      have a2 : (2 * y + d) * (2 * y + d) = 4 * (y * y) + 4 * (y * d) + d * d := by
        rw [Nat.mul_add, Nat.add_mul, Nat.add_mul, Nat.mul_comm d (2 * y), Nat.mul_assoc 2 y d, Nat.mul_assoc 2 y (2 * y), Nat.mul_left_comm y 2 y]
        omega
      omega
  have h3 : x + q + 1 ≤ 2 * ((x + q) / 2 + 1) := by omega
  have h4 := Nat.mul_le_mul h3 h3
  generalize (x + q) / 2 = y at *
  have h5 : 2 * (y + 1) * (2 * (y + 1)) = 4 * ((y + 1) * (y + 1)) := by
    rw [Nat.mul_assoc, Nat.mul_left_comm (y + 1) 2 (y + 1)]; omega
  have h6 : m < (y + 1) * (y + 1) := by omega
  refine ⟨?_, h6⟩
  rcases Nat.eq_zero_or_pos y with h0 | h0
  · subst h0; omega
  · exact h0

end Go.Proofs.YtdlnoeegboapkaaGreatDoor

/- The tape of ints: its contracts in the words of XWord; readings are kept while it is read on. printed by a small program (mktape.py). -/
namespace Go.Proofs.YtdlnoeegboapkaaGreatDoor
open Go.RowKit

theorem Rd.tp {w w' : World} {g : Nat} {v : Value} {l : List Nat} (h : Rd w v l) (ht : TapeAt w g) (hg : w.grownBy w' (some g)) : Rd w' v l := by
  obtain ⟨a, cap, rfl, h1, h2, h3, h4⟩ := h
  refine ⟨a, cap, rfl, h1, h2, h3, fun h0 => ?_⟩
  obtain ⟨b, off, rfl, hc⟩ := h4 h0
  refine ⟨b, off, rfl, fun i hi => ?_⟩
  have hb : b ≠ g := by
    rintro rfl
    obtain ⟨a, n, c, at_, zs, hh, _⟩ := ht
    have := hc i hi
    rw [cell_of_row w b (off + i) _ _ _ hh] at this
    match off + i, this with
    | 0, this => simp at this
    | 1, this => simp at this
    | k + 2, this => simp at this
  have hlt := lt_of_cell (hc i hi)
  rw [World.cell?_of_block (hg.block b hlt (fun e => hb (Option.some.inj e)))]
  exact hc i hi
theorem Nn.tp2 {W W2 : World} {g : Nat} {v : Value} {n k : Nat} (hg : W.grownBy W2 (some g)) (ht : TapeAt W g) (h : Nn W v n k) : Nn W2 v n k := by
  exact ⟨h.1.tp ht hg, h.2⟩
theorem Rr.tp2 {W W2 : World} {g : Nat} {v : Value} {n k : Nat} (hg : W.grownBy W2 (some g)) (ht : TapeAt W g) (h : Rr W v n k) : Rr W2 v n k := by
  obtain ⟨l, h1, h2⟩ := h
  exact ⟨l, h1.tp ht hg, h2⟩
theorem TapeAt.keep2 {W W2 : World} {g : Nat} (hb : Below W.heap.size W W2) (h : TapeAt W g) : TapeAt W2 g := h.keep hb
theorem TapeAt.al {W : World} {g : Nat} {o : Obj} (h : TapeAt W g) : TapeAt (W.alloc o) g := h.keep (blw_one _ _)
theorem TapeAt.dr {W : World} {g : Nat} (h : TapeAt W g) : TapeAt W.drew g := h.keep (blw_drew (Below.refl _ _))
theorem TapeAt.drN {W : World} {g : Nat} {j : Nat} (h : TapeAt W g) : TapeAt (W.drewN j) g := h.keep (blw_drewN (Below.refl _ _) j)
/-- A store into a block of the call's own that is no tape and was there after it. -/
theorem TapeAt.set2 {W : World} {g : Nat} {p : Addr} {x : Value} (hp : g < p.block) (h : TapeAt W g) : TapeAt (W.setCell p x) g :=
  h.same fun k hk => Below.heap_setCell _ _ _ _ (by omega)

theorem newW {a0 : Option Addr} {len0 cap0 : Nat} {z0 : List Int} {w : World} (w0 : IsRow .i64 w a0 len0 cap0 z0) :
    Calls Tryz.prog 12 #[.slice a0 len0 cap0] w fun e w' => e = .returned (.pointer (some ⟨w.heap.size, 0, none⟩)) ∧ TapeAt w' w.heap.size ∧ Below w.heap.size w w' := new_any a0 len0 cap0 z0 w w0
theorem nextW {w : World} {g : Nat} {n : Int} (ht : TapeAt w g) (h0 : 0 < n) (h1 : n ≤ 1000000) :
    Calls Tryz.prog 26 #[.pointer (some ⟨g, 0, none⟩), .int .i64 n] w fun e w' => ∃ v : Int, e = .returned (.int .i64 v) ∧ 0 ≤ v ∧ v < n ∧ TapeAt w' g ∧ w.grownBy w' (some g) := by
  obtain ⟨d, rfl⟩ := Int.eq_ofNat_of_zero_le (Int.le_of_lt h0)
  refine (next_any w g d (by omega) (by omega) ht).mono ?_
  rintro e w' ⟨v, hv, rfl, ht', hg⟩
  exact ⟨v, rfl, by omega, by omega, ht', hg⟩
/-- A number is returned that need not be in normal form. -/
def RetR (w : World) (n k : Nat) (e : Ending) (w' : World) : Prop := ∃ a l c, e = .returned (.slice a l c) ∧ Rr w' (.slice a l c) n k ∧ Below w.heap.size w w'
theorem natsW {w : World} {u : Value} {m km : Nat} {k : Int} (hu : Nn w u m km) (hk : km ≤ 900000) (h0 : 0 ≤ k) (h1 : k ≤ 1000000) :
    Calls Tryz.prog 61 #[u, .int .i64 k] w (RetR w m (km + 2)) := by
  obtain ⟨k, rfl⟩ := Int.eq_ofNat_of_zero_le h0
  obtain ⟨h, hl⟩ := hu
  refine (nats_any w u _ k (by omega) h (by omega)).mono ?_
  rintro e w' ⟨z, rfl, ho, hb⟩
  have hr : Rr w' z m (km + 2) := ⟨_, ho.rd, by rw [val_zeros, val_nf], by simp; omega⟩
  obtain ⟨a, l, c, rfl⟩ := hr.shape
  exact ⟨_, _, _, rfl, hr, hb⟩
theorem nats0W {w : World} {u : Value} {m km : Nat} (hu : Nn w u m km) (hk : km ≤ 900000) : Calls Tryz.prog 61 #[u, .int .i64 0] w (RetN w m km) := by
  obtain ⟨h, hl⟩ := hu
  refine (nats_any w u _ 0 (by omega) h (by omega)).mono ?_
  rintro e w' ⟨z, rfl, ho, hb⟩
  rw [show nf m ++ List.replicate (0 % 3) 0 = nf m from List.append_nil _] at ho
  exact .mk (.of_own ho hl) hb
/-- Two numbers that are equal read the same. -/
theorem sameNT {w : World} {u v : Value} {m n km kn : Nat} (hu : Nn w u m km) (hv : Nn w v n kn) (h : m = n) : Calls Tryz.prog 100 #[u, v] w fun e w' => e = .returned (.bool true) ∧ Below w.heap.size w w' := by
  have := sameNW hu hv
  rw [decide_eq_true h] at this
  exact this
theorem isRoot_sq (a : Nat) : IsRoot (a * a) a := ⟨Nat.le_refl _, by rw [Nat.mul_add, Nat.add_mul]; omega⟩
theorem isRoot_sq2 (a : Nat) : IsRoot (a * a + (a + a)) a := ⟨by omega, by rw [Nat.mul_add, Nat.add_mul]; omega⟩
theorem blw_tp2 {w a b : World} {g : Nat} (hg : a.grownBy b (some g)) (hgw : w.heap.size ≤ g) (h : Below w.heap.size w a) : Below w.heap.size w b := blw_tp h hg hgw
end Go.Proofs.YtdlnoeegboapkaaGreatDoor
