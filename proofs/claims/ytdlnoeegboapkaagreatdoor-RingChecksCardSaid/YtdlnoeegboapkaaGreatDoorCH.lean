/-
  Texts of this claim, joined: Call, Cls, Tail, Err, Sen, Row.
-/
import Derived.Test.YtdlnoeegboapkaaGreatDoorCE
import Derived.Test.YtdlnoeegboapkaaGreatDoorCG
import Derived.Deep.AppendLies
import Derived.Deep.RegionHeld3
import Derived.Test.YtdlnoeegboapkaaGreatDoorProg
import Derived.WalkKit
import Derived.Lib.Hide
import Derived.LaidEql
import Derived.Stop.Asserts
import Derived.RowKitTokens
import Derived.Laws.AppendOwn
/- Contracts as one step of a walk, and what is kept while the tape is read on. printed by a small program (mkcall.py). -/
namespace Go.Proofs.YtdlnoeegboapkaaGreatDoor
open Go.RowKit

theorem Calls.kN {P : Program} {f : FuncId} {args : Array Value} {w : World} {n k : Nat} {K : Ending → World → Prop} (h : Calls P f args w (RetN w n k))
    (hK : ∀ w', Below w.heap.size w w' → w.heap.size ≤ w'.heap.size → ∀ a l c, Nn w' (.slice a l c) n k → K (.returned (.slice a l c)) w') : Calls P f args w K := by
  refine h.mono ?_
  rintro e w' ⟨a, l, c, rfl, hn, hb⟩
  exact hK w' hb hb.size a l c hn
theorem Calls.kR {P : Program} {f : FuncId} {args : Array Value} {w : World} {n k : Nat} {K : Ending → World → Prop} (h : Calls P f args w (RetR w n k))
    (hK : ∀ w', Below w.heap.size w w' → w.heap.size ≤ w'.heap.size → ∀ a l c, Rr w' (.slice a l c) n k → K (.returned (.slice a l c)) w') : Calls P f args w K := by
  refine h.mono ?_
  rintro e w' ⟨a, l, c, rfl, hn, hb⟩
  exact hK w' hb hb.size a l c hn
theorem Calls.kE {P : Program} {f : FuncId} {args : Array Value} {w : World} {v : Value} {K : Ending → World → Prop} (h : Calls P f args w (fun e w' => e = .returned v ∧ Below w.heap.size w w'))
    (hK : ∀ w', Below w.heap.size w w' → w.heap.size ≤ w'.heap.size → K (.returned (v)) w') : Calls P f args w K := by
  refine h.mono ?_
  rintro e w' ⟨rfl, hb⟩
  exact hK w' hb hb.size
theorem Calls.kS {P : Program} {f : FuncId} {args : Array Value} {w : World} {v : Value} {K : Ending → World → Prop} (h : Calls P f args w (fun e w' => e = .returned v ∧ w = w'))
    (hK : K (.returned v) w) : Calls P f args w K := by
  refine h.mono ?_
  rintro e w' ⟨rfl, rfl⟩
  exact hK
theorem Calls.kZ {P : Program} {f : FuncId} {args : Array Value} {w : World} {z : Int} {k : Nat} {K : Ending → World → Prop} (h : Calls P f args w (RetZ w z k))
    (hK : ∀ w', Below w.heap.size w w' → w.heap.size ≤ w'.heap.size → ∀ g a l c, Zz w' g (.slice a l c) z k → K (.returned (.agg #[.bool g, .slice a l c])) w') : Calls P f args w K := by
  refine h.mono ?_
  rintro e w' ⟨g, a, l, c, rfl, hn, hb⟩
  exact hK w' hb hb.size g a l c hn
theorem Calls.kSg {P : Program} {f : FuncId} {args : Array Value} {w : World} {a : Option Addr} {l c k : Nat} {z : Int} {K : Ending → World → Prop} (h : Calls P f args w (fun e w' => ∃ g', e = .returned (.agg #[.bool g', .slice a l c]) ∧ Zz w' g' (.slice a l c) z k ∧ Below w.heap.size w w'))
    (hK : ∀ w', Below w.heap.size w w' → w.heap.size ≤ w'.heap.size → ∀ g, Zz w' g (.slice a l c) z k → K (.returned (.agg #[.bool g, .slice a l c])) w') : Calls P f args w K := by
  refine h.mono ?_
  rintro e w' ⟨g, rfl, hn, hb⟩
  exact hK w' hb hb.size g hn
theorem Calls.kDZ {P : Program} {f : FuncId} {args : Array Value} {w : World} {x y : Int} {k : Nat} {K : Ending → World → Prop} (h : Calls P f args w (DivZ w x y k))
    (hK : ∀ w', Below w.heap.size w w' → w.heap.size ≤ w'.heap.size → ∀ g a l c g2 a2 l2 c2, Zz w' g (.slice a l c) (x / y) k → Zz w' g2 (.slice a2 l2 c2) (if y = 0 then 0 else x % y) k → K (.returned (.tuple #[.agg #[.bool g, .slice a l c], .agg #[.bool g2, .slice a2 l2 c2], .bool (decide (y ≠ 0))])) w') : Calls P f args w K := by
  refine h.mono ?_
  rintro e w' ⟨g, a, l, c, g2, a2, l2, c2, rfl, h1, h2, hb⟩
  exact hK w' hb hb.size g a l c g2 a2 l2 c2 h1 h2
theorem Calls.kQ {P : Program} {f : FuncId} {args : Array Value} {w : World} {q r k : Nat} {K : Ending → World → Prop} (h : Calls P f args w (RetQR w q r k))
    (hK : ∀ w', Below w.heap.size w w' → w.heap.size ≤ w'.heap.size → ∀ a l c a2 l2 c2, Nn w' (.slice a l c) q k → Nn w' (.slice a2 l2 c2) r k → K (.returned (.tuple #[.slice a l c, .slice a2 l2 c2])) w') : Calls P f args w K := by
  refine h.mono ?_
  rintro e w' ⟨a, l, c, a2, l2, c2, rfl, h1, h2, hb⟩
  exact hK w' hb hb.size a l c a2 l2 c2 h1 h2
theorem Calls.kNext {P : Program} {f : FuncId} {args : Array Value} {w : World} {g : Nat} {n : Int} {K : Ending → World → Prop} (h : Calls P f args w (fun e w' => ∃ v : Int, e = .returned (.int .i64 v) ∧ 0 ≤ v ∧ v < n ∧ TapeAt w' g ∧ w.grownBy w' (some g)))
    (hK : ∀ w', w.grownBy w' (some g) → w.heap.size ≤ w'.heap.size → TapeAt w' g → g < w'.heap.size → ∀ v : Int, 0 ≤ v → v < n → K (.returned (.int .i64 v)) w') : Calls P f args w K := by
  refine h.mono ?_
  rintro e w' ⟨v, rfl, h0, h1, ht, hg⟩
  exact hK w' hg hg.size ht ht.lt v h0 h1
theorem Calls.kTN {P : Program} {f : FuncId} {args : Array Value} {w : World} {g d : Nat} {K : Ending → World → Prop} (h : Calls P f args w (fun e w' => ∃ a l c m, e = .returned (.slice a l c) ∧ Nn w' (.slice a l c) m d ∧ TapeAt w' g ∧ w.grownBy w' (some g)))
    (hK : ∀ w', w.grownBy w' (some g) → w.heap.size ≤ w'.heap.size → TapeAt w' g → g < w'.heap.size → ∀ a l c m, Nn w' (.slice a l c) m d → K (.returned (.slice a l c)) w') : Calls P f args w K := by
  refine h.mono ?_
  rintro e w' ⟨a, l, c, m, rfl, h0, ht, hg⟩
  exact hK w' hg hg.size ht ht.lt a l c m h0
theorem Calls.kNew {P : Program} {f : FuncId} {args : Array Value} {w : World} {v : Value} {g : Nat} {K : Ending → World → Prop} (h : Calls P f args w (fun e w' => e = .returned v ∧ TapeAt w' g ∧ Below w.heap.size w w'))
    (hK : ∀ w', Below w.heap.size w w' → w.heap.size ≤ w'.heap.size → TapeAt w' g → g < w'.heap.size → K (.returned v) w') : Calls P f args w K := by
  refine h.mono ?_
  rintro e w' ⟨rfl, ht, hb⟩
  exact hK w' hb hb.size ht ht.lt
/-- What the tape's Int, and the laws' made, give. -/
def TapeZ (w : World) (g k : Nat) (e : Ending) (w' : World) : Prop := ∃ b a l c z, e = .returned (.agg #[.bool b, .slice a l c]) ∧ Zz w' b (.slice a l c) z k ∧ TapeAt w' g ∧ w.grownBy w' (some g)
def TapeI (w : World) (g k : Nat) (e : Ending) (w' : World) : Prop := ∃ b a l c z, e = .returned (.agg #[.bool b, .slice a l c]) ∧ Zi w' b (.slice a l c) z k ∧ TapeAt w' g ∧ w.grownBy w' (some g)
theorem Calls.kTZ {P : Program} {f : FuncId} {args : Array Value} {w : World} {g k : Nat} {K : Ending → World → Prop} (h : Calls P f args w (TapeZ w g k))
    (hK : ∀ w', w.grownBy w' (some g) → w.heap.size ≤ w'.heap.size → TapeAt w' g → g < w'.heap.size → ∀ b a l c z, Zz w' b (.slice a l c) z k → K (.returned (.agg #[.bool b, .slice a l c])) w') : Calls P f args w K := by
  refine h.mono ?_
  rintro e w' ⟨b, a, l, c, z, rfl, h0, ht, hg⟩
  exact hK w' hg hg.size ht ht.lt b a l c z h0
theorem Calls.kTI {P : Program} {f : FuncId} {args : Array Value} {w : World} {g k : Nat} {K : Ending → World → Prop} (h : Calls P f args w (TapeI w g k))
    (hK : ∀ w', w.grownBy w' (some g) → w.heap.size ≤ w'.heap.size → TapeAt w' g → g < w'.heap.size → ∀ b a l c z, Zi w' b (.slice a l c) z k → K (.returned (.agg #[.bool b, .slice a l c])) w') : Calls P f args w K := by
  refine h.mono ?_
  rintro e w' ⟨b, a, l, c, z, rfl, h0, ht, hg⟩
  exact hK w' hg hg.size ht ht.lt b a l c z h0
theorem Zz.tp2 {W W2 : World} {g : Nat} {b : Bool} {s : Value} {z : Int} {k : Nat} (hg : W.grownBy W2 (some g)) (ht : TapeAt W g) (h : Zz W b s z k) : Zz W2 b s z k := by
  exact ⟨h.1, Nn.tp2 hg ht h.2⟩
theorem Zi.tp2 {W W2 : World} {g : Nat} {b : Bool} {s : Value} {z : Int} {k : Nat} (hg : W.grownBy W2 (some g)) (ht : TapeAt W g) (h : Zi W b s z k) : Zi W2 b s z k := by
  obtain ⟨n, h1, h2⟩ := h
  exact ⟨n, Rr.tp2 hg ht h1, h2⟩
/-- An operation whose guard has not been reckoned is passed over. -/
theorem ite_none {c : Option Bool} {b : Bool} {P Q : Prop} [Decidable (c = some b)] (hc : c = none) (h : Q) : if c = some b then P else Q := by
  rw [if_neg (by rw [hc]; exact fun e => nomatch e)]; exact h
theorem cellTp {W W2 : World} {g : Nat} {a : Addr} {v : Value} (hg : W.grownBy W2 (some g)) (hne : a.block ≠ g) (h : W.cell? a = some v) : W2.cell? a = some v :=
  hg.cell h (fun e => hne (Option.some.inj e))
theorem Fz.tp {W W2 : World} {g : Nat} {a : Addr} (hg : W.grownBy W2 (some g)) (hne : a.block ≠ g) (h : Fz W a) : Fz W2 a := by
  obtain ⟨⟨v, hv⟩, hf⟩ := h
  exact ⟨⟨v, cellTp hg hne hv⟩, (hg.frozen_far a (lt_of_cell hv) (fun e => hne (Option.some.inj e))).trans hf⟩
/-! ### worlds in which the tape alone has changed -/
theorem gb_al {w W : World} {g : Nat} {o : Obj} (h : w.grownBy W (some g)) : w.grownBy (W.alloc o) (some g) := gb_below h (blw_one _ _)
theorem gb_dr {w W : World} {g : Nat} (h : w.grownBy W (some g)) : w.grownBy W.drew (some g) := gb_below h (blw_drew (Below.refl _ _))
theorem gb_drN {w W : World} {g j : Nat} (h : w.grownBy W (some g)) : w.grownBy (W.drewN j) (some g) := gb_below h (blw_drewN (Below.refl _ _) j)
theorem gb_keep2 {w W W2 : World} {g : Nat} (hb : Below W.heap.size W W2) (h : w.grownBy W (some g)) : w.grownBy W2 (some g) := gb_below h hb
theorem gb_tp2 {w W W2 : World} {g : Nat} (hg : W.grownBy W2 (some g)) (h : w.grownBy W (some g)) : w.grownBy W2 (some g) := gb_trans h hg
theorem gb_set {w W : World} {g : Nat} {p : Addr} {x : Value} (hp : w.heap.size ≤ p.block) (h : w.grownBy W (some g)) : w.grownBy (W.setCell p x) (some g) :=
  ⟨h.os, h.tape, h.output, by simpa using h.size, fun i hi hne => by rw [Below.heap_setCell _ _ _ _ (by omega)]; exact h.block i hi hne⟩
end Go.Proofs.YtdlnoeegboapkaaGreatDoor

/- What a walk knows of memory, as classes: readings of numbers, boxes of the call's own with what they hold, and the order of the worlds. The premises of a contract are then found by instance search. printed by a small program (mkcls.py). -/
namespace Go.Proofs.YtdlnoeegboapkaaGreatDoor
open Go.RowKit

/-- From W to W2 only new memory was written. -/
class Kp1 (W : outParam World) (W2 : World) : Prop where out : Below W.heap.size W W2
/-- From W to W2 the tape in block g was read on; else only new memory was written. -/
class Tp1 (W : outParam World) (W2 : World) (g : outParam Nat) : Prop where
  gb : W.grownBy W2 (some g)
  tp : TapeAt W g
/-- The number of blocks. -/
class Sz (W : World) (b : outParam Nat) : Prop where out : W.heap.size = b
instance (priority := low) Sz.base {W : World} : Sz W W.heap.size := ⟨rfl⟩
instance Sz.al {W : World} {b : Nat} {o : Obj} [h : Sz W b] : Sz (W.alloc o) (b + 1) := ⟨by rw [World.size_alloc, h.out]⟩
instance Sz.dr {W : World} {b : Nat} [h : Sz W b] : Sz W.drew b := ⟨h.out⟩
instance Sz.drN {W : World} {b j : Nat} [h : Sz W b] : Sz (W.drewN j) b := ⟨h.out⟩
instance Sz.st {W : World} {b : Nat} {p : Addr} {x : Value} [h : Sz W b] : Sz (W.setCell p x) b := ⟨by rw [World.size_setCell, h.out]⟩
/-- No digit. -/
class Ndg (v : Value) : Prop where out : isDigit32 v = false
instance {b : Bool} : Ndg (.bool b) := ⟨rfl⟩
instance {a : Option Addr} {l c : Nat} : Ndg (.slice a l c) := ⟨rfl⟩
instance {a : Option Addr} : Ndg (.pointer a) := ⟨rfl⟩
instance {n : Int} : Ndg (.int .i64 n) := ⟨rfl⟩
instance {n : Int} : Ndg (.int .u64 n) := ⟨rfl⟩
class Ndl (l : List Value) : Prop where out : ∀ u ∈ l, isDigit32 u = false
instance Ndl.nil : Ndl [] := ⟨fun _ h => nomatch h⟩
instance Ndl.cons {v : Value} {l : List Value} [h1 : Ndg v] [h2 : Ndl l] : Ndl (v :: l) := ⟨fun u h => by
  rcases List.mem_cons.1 h with rfl | h
  · exact h1.out
  · exact h2.out _ h⟩
instance Ndl.set {v : Value} {l : List Value} {i : Nat} [h1 : Ndg v] [h2 : Ndl l] : Ndl (l.set i v) := ⟨fun u h => by
  rcases List.mem_or_eq_of_mem_set h with h | rfl
  · exact h2.out _ h
  · exact h1.out⟩
/-- Types of boxes: neither digits nor the tape nor a pair of big numbers. -/
class BoxT (t : TypeId) : Prop where
  tape : t ≠ 108
  pair : t ≠ 300
instance : BoxT 27 := by constructor <;> decide
instance : BoxT 29 := by constructor <;> decide
instance : BoxT 31 := by constructor <;> decide
instance : BoxT 156 := by constructor <;> decide
instance : BoxT 43 := by constructor <;> decide
instance : BoxT 45 := by constructor <;> decide
instance : BoxT 47 := by constructor <;> decide
instance : BoxT 163 := by constructor <;> decide
instance : BoxT 147 := by constructor <;> decide
instance : BoxT 152 := by constructor <;> decide
instance : BoxT 178 := by constructor <;> decide
instance : BoxT 180 := by constructor <;> decide
instance : BoxT 182 := by constructor <;> decide
instance : BoxT 158 := by constructor <;> decide
instance : BoxT 160 := by constructor <;> decide
instance : BoxT 4 := by constructor <;> decide
instance : BoxT 3 := by constructor <;> decide
instance : BoxT 2 := by constructor <;> decide
instance : BoxT 205 := by constructor <;> decide
instance : BoxT 165 := by constructor <;> decide
instance : BoxT 167 := by constructor <;> decide
instance : BoxT 25 := by constructor <;> decide
instance : BoxT 41 := by constructor <;> decide
instance : BoxT 24 := by constructor <;> decide
instance : BoxT 36 := by constructor <;> decide
instance : BoxT 9 := by constructor <;> decide
/-- a is less than b. -/
class LtN (a b : Nat) : Prop where out : a < b
class NeN (a b : Nat) : Prop where out : a ≠ b
instance LtN.one {a : Nat} : LtN a (a + 1) := ⟨Nat.lt_succ_self a⟩
instance (priority := low) LtN.step {a b : Nat} [h : LtN a b] : LtN a (b + 1) := ⟨Nat.lt_succ_of_lt h.out⟩
instance NeN.l {a b : Nat} [h : LtN a b] : NeN a b := ⟨Nat.ne_of_lt h.out⟩
instance NeN.r {a b : Nat} [h : LtN b a] : NeN a b := ⟨Nat.ne_of_gt h.out⟩
theorem heap_al_lt {W : World} {o : Obj} {b : Nat} (h : b < W.heap.size) : (W.alloc o).heap[b]? = W.heap[b]? := by
  simp only [World.alloc, Array.getElem?_push]; rw [if_neg (by omega)]
theorem heap_al_new {W : World} {o : Obj} : (W.alloc o).heap[W.heap.size]? = some o := by
  show (W.heap.push o)[W.heap.size]? = some o
  simp
/-- The box b holds the cells l; it is of type t. -/
class Bx (W : World) (b : Nat) (t : outParam TypeId) (l : outParam (List Value)) : Prop where out : W.heap[b]? = some (.cells l.toArray t (0, 0))
theorem Bx.lt {W : World} {b : Nat} {t : TypeId} {l : List Value} (h : Bx W b t l) : b < W.heap.size := heap_lt h.out
instance Bx.new {W : World} {b : Nat} {t : TypeId} {l : List Value} [h : Sz W b] : Bx (W.alloc (.cells l.toArray t (0, 0))) b t l := ⟨by rw [← h.out]; exact heap_al_new⟩
instance (priority := low) Bx.al {W : World} {b : Nat} {t : TypeId} {l : List Value} {o : Obj} [h : Bx W b t l] : Bx (W.alloc o) b t l := ⟨by rw [heap_al_lt h.lt]; exact h.out⟩
instance Bx.dr {W : World} {b : Nat} {t : TypeId} {l : List Value} [h : Bx W b t l] : Bx W.drew b t l := ⟨h.out⟩
instance Bx.drN {W : World} {b j : Nat} {t : TypeId} {l : List Value} [h : Bx W b t l] : Bx (W.drewN j) b t l := ⟨h.out⟩
instance Bx.kp {W W2 : World} {b : Nat} {t : TypeId} {l : List Value} [k : Kp1 W W2] [h : Bx W b t l] : Bx W2 b t l := ⟨by rw [k.out.block b h.lt]; exact h.out⟩
instance Bx.tp {W W2 : World} {b g : Nat} {t : TypeId} {l : List Value} [k : Tp1 W W2 g] [h : Bx W b t l] [ht : BoxT t] : Bx W2 b t l := ⟨by
  rw [k.gb.block b h.lt ?_]
  · exact h.out
  · intro e
    injection e with e
    subst e
    obtain ⟨a, n, c, at_, zs, hh, _⟩ := k.tp
    rw [h.out] at hh
    injection hh with hh
    injection hh with _ h2
    exact ht.tape h2⟩
instance (priority := low) Bx.setO {W : World} {b q i : Nat} {x : Value} {t : TypeId} {l : List Value} [h : Bx W b t l] [n : NeN q b] : Bx (W.setCell ⟨q, i, none⟩ x) b t l := ⟨by
  simp only [World.setCell, Array.getElem?_modify]
  rw [if_neg n.out]; exact h.out⟩
instance Bx.setS {W : World} {b i : Nat} {x : Value} {t : TypeId} {l : List Value} [h : Bx W b t l] : Bx (W.setCell ⟨b, i, none⟩ x) b t (l.set i x) := ⟨by
  simp only [World.setCell, Array.getElem?_modify, if_pos]
  rw [h.out]; simp⟩
instance LtN.bx {W : World} {b : Nat} {t : TypeId} {l : List Value} [h : Bx W b t l] : LtN b W.heap.size := ⟨h.lt⟩
@[go_sem] theorem cell_bx {W : World} {b i : Nat} {t : TypeId} {l : List Value} [h : Bx W b t l] : W.cell? ⟨b, i, none⟩ = l[i]? := by
  simp [World.cell?, h.out]
@[go_sem] theorem frozen_bx {W : World} {b i : Nat} {t : TypeId} {l : List Value} [h : Bx W b t l] : W.frozen? ⟨b, i, none⟩ = false := by
  simp [World.frozen?, h.out]
/-- A box that no reading looks into. -/
class SoftB (W : World) (b : Nat) : Prop where out : ∃ t l, W.heap[b]? = some (.cells (List.toArray l) t (0, 0)) ∧ BoxT t ∧ ∀ u ∈ l, isDigit32 u = false
instance SoftB.mk' {W : World} {b : Nat} {t : TypeId} {l : List Value} [h : Bx W b t l] [ht : BoxT t] [hl : Ndl l] : SoftB W b := ⟨t, l, h.out, ht, hl.out⟩
theorem SoftB.no {W : World} {q i : Nat} {u : Value} (h : SoftB W q) (hc : W.cell? ⟨q, i, none⟩ = some u) : isDigit32 u = false := by
  obtain ⟨t, l, h1, _, h2⟩ := h.out
  simp only [World.cell?, h1] at hc
  have hc : l[i]? = some u := by simpa using hc
  exact h2 u (List.mem_of_getElem? hc)
/-- All new memory lies from w's end on. -/
class Kp (w W : World) : Prop where out : Below w.heap.size w W
class Ge (w : World) (b : Nat) : Prop where out : w.heap.size ≤ b
instance Ge.base {w : World} : Ge w w.heap.size := ⟨Nat.le_refl _⟩
instance Ge.step {w : World} {b : Nat} [h : Ge w b] : Ge w (b + 1) := ⟨Nat.le_succ_of_le h.out⟩
instance (priority := low) Ge.sz {w : World} {b : Nat} [h : Sz w b] : Ge w b := ⟨Nat.le_of_eq h.out⟩
instance (priority := low) Ge.kp {w W : World} [h : Kp w W] : Ge w W.heap.size := ⟨h.out.size⟩
instance Kp.refl {w : World} : Kp w w := ⟨Below.refl _ _⟩
instance Kp.al {w W : World} {o : Obj} [h : Kp w W] : Kp w (W.alloc o) := ⟨blw_alloc h.out o⟩
instance Kp.dr {w W : World} [h : Kp w W] : Kp w W.drew := ⟨blw_drew h.out⟩
instance Kp.drN {w W : World} {j : Nat} [h : Kp w W] : Kp w (W.drewN j) := ⟨blw_drewN h.out j⟩
instance Kp.st {w W : World} {q i : Nat} {x : Value} [h : Kp w W] [g : Ge w q] : Kp w (W.setCell ⟨q, i, none⟩ x) := ⟨blw_set x h.out g.out⟩
instance (priority := low) Kp.kp {w W W2 : World} [k : Kp1 W W2] [h : Kp w W] : Kp w W2 := ⟨blw_trans h.out k.out⟩
instance (priority := low) Kp.tp {w W W2 : World} {g : Nat} [k : Tp1 W W2 g] [h : Kp w W] [n : Ge w g] : Kp w W2 := ⟨blw_tp h.out k.gb n.out⟩
/-- The tape. -/
class Ct (W : World) (g : Nat) : Prop where out : TapeAt W g
instance Ct.al {W : World} {g : Nat} {o : Obj} [h : Ct W g] : Ct (W.alloc o) g := ⟨h.out.al⟩
instance Ct.dr {W : World} {g : Nat} [h : Ct W g] : Ct W.drew g := ⟨h.out.dr⟩
instance Ct.drN {W : World} {g j : Nat} [h : Ct W g] : Ct (W.drewN j) g := ⟨h.out.drN⟩
instance Ct.kp {W W2 : World} {g : Nat} [k : Kp1 W W2] [h : Ct W g] : Ct W2 g := ⟨h.out.keep k.out⟩
instance Ct.st {W : World} {g q i : Nat} {x : Value} [h : Ct W g] [n : LtN g q] : Ct (W.setCell ⟨q, i, none⟩ x) g := ⟨h.out.set2 n.out⟩
instance LtN.ct {W : World} {g : Nat} [h : Ct W g] : LtN g W.heap.size := ⟨h.out.lt⟩
/-- From w on, the tape g apart, only new memory was written. -/
class Gb (w W : World) (g : Nat) : Prop where out : w.grownBy W (some g)
instance Gb.refl {w : World} {g : Nat} : Gb w w g := ⟨gb_refl _ _⟩
instance Gb.al {w W : World} {g : Nat} {o : Obj} [h : Gb w W g] : Gb w (W.alloc o) g := ⟨gb_al h.out⟩
instance Gb.dr {w W : World} {g : Nat} [h : Gb w W g] : Gb w W.drew g := ⟨gb_dr h.out⟩
instance Gb.drN {w W : World} {g j : Nat} [h : Gb w W g] : Gb w (W.drewN j) g := ⟨gb_drN h.out⟩
instance (priority := low) Gb.kp {w W W2 : World} {g : Nat} [k : Kp1 W W2] [h : Gb w W g] : Gb w W2 g := ⟨gb_keep2 k.out h.out⟩
instance (priority := low) Gb.tp {w W W2 : World} {g : Nat} [k : Tp1 W W2 g] [h : Gb w W g] : Gb w W2 g := ⟨gb_tp2 k.gb h.out⟩
/-- There are no fewer blocks. -/
class Kz (w W : World) : Prop where out : w.heap.size ≤ W.heap.size
instance Kz.refl {w : World} : Kz w w := ⟨Nat.le_refl _⟩
instance Kz.al {w W : World} {o : Obj} [h : Kz w W] : Kz w (W.alloc o) := ⟨by rw [World.size_alloc]; exact Nat.le_succ_of_le h.out⟩
instance Kz.dr {w W : World} [h : Kz w W] : Kz w W.drew := ⟨h.out⟩
instance Kz.drN {w W : World} {j : Nat} [h : Kz w W] : Kz w (W.drewN j) := ⟨h.out⟩
instance Kz.st {w W : World} {p : Addr} {x : Value} [h : Kz w W] : Kz w (W.setCell p x) := ⟨by rw [World.size_setCell]; exact h.out⟩
instance (priority := low) Kz.kp {w W W2 : World} [k : Kp1 W W2] [h : Kz w W] : Kz w W2 := ⟨Nat.le_trans h.out k.out.size⟩
instance (priority := low) Kz.tp {w W W2 : World} {g : Nat} [k : Tp1 W W2 g] [h : Kz w W] : Kz w W2 := ⟨Nat.le_trans h.out k.gb.size⟩
class Gg (w : World) (b : Nat) : Prop where out : w.heap.size ≤ b
instance Gg.base {w : World} : Gg w w.heap.size := ⟨Nat.le_refl _⟩
instance Gg.step {w : World} {b : Nat} [h : Gg w b] : Gg w (b + 1) := ⟨Nat.le_succ_of_le h.out⟩
instance (priority := low) Gg.sz {w : World} {b : Nat} [h : Sz w b] : Gg w b := ⟨Nat.le_of_eq h.out⟩
instance (priority := low) Gg.gb {w W : World} [h : Kz w W] : Gg w W.heap.size := ⟨h.out⟩
instance Gb.st {w W : World} {g q i : Nat} {x : Value} [h : Gb w W g] [n : Gg w q] : Gb w (W.setCell ⟨q, i, none⟩ x) g := ⟨gb_set n.out h.out⟩
/-- W is as W0 was in the blocks that were there, but for those of L. -/
class Ex (W0 : World) (L : List Nat) (W : World) : Prop where
  size : W0.heap.size ≤ W.heap.size
  block : ∀ k, k < W0.heap.size → k ∉ L → W.heap[k]? = W0.heap[k]?
/-- The same as a fact of the walk. -/
class Ex1 (W0 : outParam World) (L : outParam (List Nat)) (W : World) : Prop where out : Ex W0 L W
class InL (q : Nat) (L : List Nat) : Prop where out : q ∈ L
instance InL.hd {q : Nat} {L : List Nat} : InL q (q :: L) := ⟨List.mem_cons_self ..⟩
instance (priority := low) InL.tl {q x : Nat} {L : List Nat} [h : InL q L] : InL q (x :: L) := ⟨List.mem_cons_of_mem _ h.out⟩
class NoL (q : Nat) (L : List Nat) : Prop where out : q ∉ L
instance NoL.nil {q : Nat} : NoL q [] := ⟨fun h => nomatch h⟩
instance NoL.cons {q x : Nat} {L : List Nat} [h1 : NeN q x] [h2 : NoL q L] : NoL q (x :: L) := ⟨fun h => (List.mem_cons.1 h).elim h1.out h2.out⟩
instance Ex.refl {W : World} {L : List Nat} : Ex W L W := ⟨Nat.le_refl _, fun _ _ _ => rfl⟩
instance Ex.dr {W0 W : World} {L : List Nat} [h : Ex W0 L W] : Ex W0 L W.drew := ⟨h.size, h.block⟩
instance Ex.drN {W0 W : World} {L : List Nat} {j : Nat} [h : Ex W0 L W] : Ex W0 L (W.drewN j) := ⟨h.size, h.block⟩
instance Ex.al {W0 W : World} {L : List Nat} {o : Obj} [h : Ex W0 L W] : Ex W0 L (W.alloc o) :=
  ⟨by rw [World.size_alloc]; exact Nat.le_succ_of_le h.size, fun k hk hL => by rw [heap_al_lt (Nat.lt_of_lt_of_le hk h.size)]; exact h.block k hk hL⟩
instance (priority := low) Ex.kp {W0 W W2 : World} {L : List Nat} [k : Kp1 W W2] [h : Ex W0 L W] : Ex W0 L W2 :=
  ⟨Nat.le_trans h.size k.out.size, fun j hj hL => by rw [k.out.block j (Nat.lt_of_lt_of_le hj h.size)]; exact h.block j hj hL⟩
instance (priority := low) Ex.tp {W0 W W2 : World} {g : Nat} {L : List Nat} [k : Tp1 W W2 g] [n : InL g L] [h : Ex W0 L W] : Ex W0 L W2 :=
  ⟨Nat.le_trans h.size k.gb.size, fun j hj hL => by
    rw [k.gb.block j (Nat.lt_of_lt_of_le hj h.size) (fun e => by injection e with e; subst e; exact hL n.out)]; exact h.block j hj hL⟩
instance Ex.st {W0 W : World} {L : List Nat} {q i : Nat} {x : Value} [n : InL q L] [h : Ex W0 L W] : Ex W0 L (W.setCell ⟨q, i, none⟩ x) :=
  ⟨by rw [World.size_setCell]; exact h.size, fun k hk hL => by
    simp only [World.setCell, Array.getElem?_modify]
    rw [if_neg (fun e => hL (by rw [← e]; exact n.out))]; exact h.block k hk hL⟩
instance (priority := low) Ex.st2 {W0 W : World} {L : List Nat} {q i : Nat} {x : Value} [n : Gg W0 q] [h : Ex W0 L W] : Ex W0 L (W.setCell ⟨q, i, none⟩ x) :=
  ⟨by rw [World.size_setCell]; exact h.size, fun k hk hL => by
    simp only [World.setCell, Array.getElem?_modify]
    rw [if_neg (fun e => by have := n.out; omega)]; exact h.block k hk hL⟩
instance (priority := low) Bx.ex {W0 W : World} {L : List Nat} {b : Nat} {t : TypeId} {l : List Value} [e : Ex1 W0 L W] [n : NoL b L] [h : Bx W0 b t l] : Bx W b t l := ⟨by
  rw [e.out.block b h.lt n.out]; exact h.out⟩
/-- A region that draws its order: what was there stays as it was, but for the blocks of L. -/
theorem region_cls {P : Program} {ops : Array Oper} {Q : Exit → Act → World → Prop} {id : Nat} {a : Act} {w : World} (hm : P.follows .mixedOrders = true) (L : List Nat)
    (h : Ex w L w.drew → wpAnyH P .any ops Q (Ex w L) ops.size (Array.replicate ops.size false) a w.drew) : (Code.region id ops true).wp P Q a w :=
  wp_region_held_drew (S := Ex w L) hm Ex.dr h
theorem Rd.soft {W : World} {v : Value} {l : List Nat} {q i : Nat} {x : Value} (h : Rd W v l) (hs : SoftB W q) : Rd (W.setCell ⟨q, i, none⟩ x) v l := by
  obtain ⟨a, cap, rfl, h1, h2, h3, h4⟩ := h
  refine ⟨a, cap, rfl, h1, h2, h3, fun h0 => ?_⟩
  obtain ⟨b, off, rfl, hcell⟩ := h4 h0
  refine ⟨b, off, rfl, fun j hj => ?_⟩
  rw [World.cell?_setCell_other _ _ _ _ (fun e => ?_)]
  · exact hcell j hj
  · have hc := hcell j hj
    injection e with e1 e2
    subst e1
    have := hs.no hc
    simp [isDigit32] at this
theorem Nn.soft {W : World} {v : Value} {n k : Nat} {q i : Nat} {x : Value} (h : Nn W v n k) (hs : SoftB W q) : Nn (W.setCell ⟨q, i, none⟩ x) v n k := ⟨h.1.soft hs, h.2⟩
theorem Rr.soft {W : World} {v : Value} {n k : Nat} {q i : Nat} {x : Value} (h : Rr W v n k) (hs : SoftB W q) : Rr (W.setCell ⟨q, i, none⟩ x) v n k := by
  obtain ⟨l, h1, h2⟩ := h
  exact ⟨l, h1.soft hs, h2⟩
def Za (W : World) (v : Value) (z : Int) (k : Nat) : Prop := ∃ g a l c, v = .agg #[.bool g, .slice a l c] ∧ Zz W g (.slice a l c) z k
def Ia (W : World) (v : Value) (z : Int) (k : Nat) : Prop := ∃ g a l c, v = .agg #[.bool g, .slice a l c] ∧ Zi W g (.slice a l c) z k
theorem Za.map {W W2 : World} {v : Value} {z : Int} {k : Nat} (h : Za W v z k) (f : ∀ g s, Zz W g s z k → Zz W2 g s z k) : Za W2 v z k := by
  obtain ⟨g, a, l, c, e, h⟩ := h; exact ⟨g, a, l, c, e, f _ _ h⟩
theorem Ia.map {W W2 : World} {v : Value} {z : Int} {k : Nat} (h : Ia W v z k) (f : ∀ g s, Zi W g s z k → Zi W2 g s z k) : Ia W2 v z k := by
  obtain ⟨g, a, l, c, e, h⟩ := h; exact ⟨g, a, l, c, e, f _ _ h⟩
/-- The slice v is the number n in normal form, of at most k digits. -/
class CN (W : World) (v : Value) (n : outParam Nat) (k : outParam Nat) : Prop where out : Nn W v n k
instance CN.al {W : World} {v : Value} {n : Nat} {k : Nat} {o : Obj} [h : CN W v n k] : CN (W.alloc o) v n k := ⟨h.out.keep (blw_one _ _)⟩
instance CN.dr {W : World} {v : Value} {n : Nat} {k : Nat} [h : CN W v n k] : CN W.drew v n k := ⟨h.out.keep (blw_drew (Below.refl _ _))⟩
instance CN.drN {W : World} {v : Value} {n : Nat} {k : Nat} {j : Nat} [h : CN W v n k] : CN (W.drewN j) v n k := ⟨h.out.keep (blw_drewN (Below.refl _ _) _)⟩
instance CN.kp {W W2 : World} {v : Value} {n : Nat} {k : Nat} [b : Kp1 W W2] [h : CN W v n k] : CN W2 v n k := ⟨h.out.keep (b.out)⟩
instance CN.tp {W W2 : World} {v : Value} {n : Nat} {k : Nat} {g : Nat} [b : Tp1 W W2 g] [h : CN W v n k] : CN W2 v n k := ⟨Nn.tp2 b.gb b.tp h.out⟩
instance CN.st {W : World} {v : Value} {n : Nat} {k : Nat} {qb ib : Nat} {xv : Value} [b : SoftB W qb] [h : CN W v n k] : CN (W.setCell ⟨qb, ib, none⟩ xv) v n k := ⟨h.out.soft b⟩
/-- The slice v reads as the number n, in at most k digits. -/
class CR (W : World) (v : Value) (n : outParam Nat) (k : outParam Nat) : Prop where out : Rr W v n k
instance CR.al {W : World} {v : Value} {n : Nat} {k : Nat} {o : Obj} [h : CR W v n k] : CR (W.alloc o) v n k := ⟨h.out.keep (blw_one _ _)⟩
instance CR.dr {W : World} {v : Value} {n : Nat} {k : Nat} [h : CR W v n k] : CR W.drew v n k := ⟨h.out.keep (blw_drew (Below.refl _ _))⟩
instance CR.drN {W : World} {v : Value} {n : Nat} {k : Nat} {j : Nat} [h : CR W v n k] : CR (W.drewN j) v n k := ⟨h.out.keep (blw_drewN (Below.refl _ _) _)⟩
instance CR.kp {W W2 : World} {v : Value} {n : Nat} {k : Nat} [b : Kp1 W W2] [h : CR W v n k] : CR W2 v n k := ⟨h.out.keep (b.out)⟩
instance CR.tp {W W2 : World} {v : Value} {n : Nat} {k : Nat} {g : Nat} [b : Tp1 W W2 g] [h : CR W v n k] : CR W2 v n k := ⟨Rr.tp2 b.gb b.tp h.out⟩
instance CR.st {W : World} {v : Value} {n : Nat} {k : Nat} {qb ib : Nat} {xv : Value} [b : SoftB W qb] [h : CR W v n k] : CR (W.setCell ⟨qb, ib, none⟩ xv) v n k := ⟨h.out.soft b⟩
/-- The struct v is the integer z in normal form. -/
class CZ (W : World) (v : Value) (z : outParam Int) (k : outParam Nat) : Prop where out : Za W v z k
instance CZ.al {W : World} {v : Value} {z : Int} {k : Nat} {o : Obj} [h : CZ W v z k] : CZ (W.alloc o) v z k := ⟨h.out.map fun _ _ h => h.keep (blw_one _ _)⟩
instance CZ.dr {W : World} {v : Value} {z : Int} {k : Nat} [h : CZ W v z k] : CZ W.drew v z k := ⟨h.out.map fun _ _ h => h.keep (blw_drew (Below.refl _ _))⟩
instance CZ.drN {W : World} {v : Value} {z : Int} {k : Nat} {j : Nat} [h : CZ W v z k] : CZ (W.drewN j) v z k := ⟨h.out.map fun _ _ h => h.keep (blw_drewN (Below.refl _ _) _)⟩
instance CZ.kp {W W2 : World} {v : Value} {z : Int} {k : Nat} [b : Kp1 W W2] [h : CZ W v z k] : CZ W2 v z k := ⟨h.out.map fun _ _ h => h.keep (b.out)⟩
instance CZ.tp {W W2 : World} {v : Value} {z : Int} {k : Nat} {g : Nat} [b : Tp1 W W2 g] [h : CZ W v z k] : CZ W2 v z k := ⟨h.out.map fun _ _ h => Zz.tp2 b.gb b.tp h⟩
instance CZ.st {W : World} {v : Value} {z : Int} {k : Nat} {qb ib : Nat} {xv : Value} [b : SoftB W qb] [h : CZ W v z k] : CZ (W.setCell ⟨qb, ib, none⟩ xv) v z k := ⟨h.out.map fun _ _ h => ⟨h.1, h.2.soft b⟩⟩
/-- The struct v reads as the integer z. -/
class CI (W : World) (v : Value) (z : outParam Int) (k : outParam Nat) : Prop where out : Ia W v z k
instance CI.al {W : World} {v : Value} {z : Int} {k : Nat} {o : Obj} [h : CI W v z k] : CI (W.alloc o) v z k := ⟨h.out.map fun _ _ h => h.keep (blw_one _ _)⟩
instance CI.dr {W : World} {v : Value} {z : Int} {k : Nat} [h : CI W v z k] : CI W.drew v z k := ⟨h.out.map fun _ _ h => h.keep (blw_drew (Below.refl _ _))⟩
instance CI.drN {W : World} {v : Value} {z : Int} {k : Nat} {j : Nat} [h : CI W v z k] : CI (W.drewN j) v z k := ⟨h.out.map fun _ _ h => h.keep (blw_drewN (Below.refl _ _) _)⟩
instance CI.kp {W W2 : World} {v : Value} {z : Int} {k : Nat} [b : Kp1 W W2] [h : CI W v z k] : CI W2 v z k := ⟨h.out.map fun _ _ h => h.keep (b.out)⟩
instance CI.tp {W W2 : World} {v : Value} {z : Int} {k : Nat} {g : Nat} [b : Tp1 W W2 g] [h : CI W v z k] : CI W2 v z k := ⟨h.out.map fun _ _ h => Zi.tp2 b.gb b.tp h⟩
instance CI.st {W : World} {v : Value} {z : Int} {k : Nat} {qb ib : Nat} {xv : Value} [b : SoftB W qb] [h : CI W v z k] : CI (W.setCell ⟨qb, ib, none⟩ xv) v z k := ⟨h.out.map fun _ _ ⟨n, h1, h2⟩ => ⟨n, h1.soft b, h2⟩⟩
instance (priority := low) CR.of {W : World} {v : Value} {n k : Nat} [h : CN W v n k] : CR W v n k := ⟨h.out.rr⟩
instance (priority := low) CI.of {W : World} {v : Value} {z : Int} {k : Nat} [h : CZ W v z k] : CI W v z k := ⟨by
  obtain ⟨g, a, l, c, e, h⟩ := h.out
  exact ⟨g, a, l, c, e, h.zi⟩⟩
theorem Zz.pos {w : World} {s : Value} {n k : Nat} (h : Nn w s n k) : Zz w false s n k := ⟨by simp, by simpa using h⟩
instance CZ.pos {W : World} {a : Option Addr} {l c n k : Nat} [h : CN W (.slice a l c) n k] : CZ W (.agg #[.bool false, .slice a l c]) (n : Int) k := ⟨⟨_, _, _, _, rfl, Zz.pos h.out⟩⟩
instance (priority := low) CI.sg {W : World} {g : Bool} {a : Option Addr} {l c n k : Nat} [h : CR W (.slice a l c) n k] : CI W (.agg #[.bool g, .slice a l c]) (sgn g n) k := ⟨⟨_, _, _, _, rfl, ⟨n, h.out, rfl⟩⟩⟩
instance CN.nil {W : World} : CN W (.slice none 0 0) 0 0 := ⟨Nn.nil W 0⟩
instance CZ.zero {W : World} : CZ W (.agg #[.bool false, .slice none 0 0]) 0 0 := ⟨⟨_, _, _, _, rfl, Zz.zero W 0⟩⟩
instance CN.one {W : World} {b : Nat} [h : Sz W b] : CN (W.alloc (.cells #[.int .u32 1] 106)) (.slice (some ⟨b, 0, none⟩) 1 1) 1 1 := ⟨by rw [← h.out]; exact Nn.lit1⟩
/-- The end of a walk: the struct that lies in the result's box is returned. -/
theorem ret_bx {P : Program} {fn : Func} {R : Ending → World → Prop} {a : Act} {W : World} {b : Nat} {p : Tmp} {ty t : TypeId} {d : TypeDesc} {l l' : List Value} [hb : Bx W b t l] (hr : fn.results = #[.cell p ty])
    (hu : P.underlying ty = some d) (hd : (match d with | .struct _ | .array _ _ => true | _ => false) = true) (hi : (P.info? ty).map (·.size) = some l.length)
    (hp : a.tmps.getD p undef = .pointer (some ⟨b, 0, none⟩)) (hdf : a.defers = []) (hl : l = l') (hR : R (.returned (.agg l'.toArray)) W) : bodyPost P fn R .ret a W := by
  subst hl
  refine ret_c hr hp (loadVar_at W b ty l d hu hd hi (fun j hj => ?_)) hdf hR
  rw [cell_bx, List.getElem?_eq_getElem hj]
end Go.Proofs.YtdlnoeegboapkaaGreatDoor

/- A region that draws its order, whose last operations write cells that the region itself loads: the condition S on the world is asked only as long as none of those last operations (T) has been carried out. In the manner of the base's law on held conditions (Derived.OrdersHeld), with S let go at the end. -/
namespace Go.Proofs.YtdlnoeegboapkaaGreatDoor
open Go.RowKit
section
variable {P : Program} {ops : Array Oper} {Q : Exit → Act → World → Prop} {md : Region.Mode} {S : World → Prop} {T : Nat → Bool}
/-- In whatever order it goes on, S holds behind every operation that is none of T. -/
def wpAnyT (P : Program) (md : Region.Mode) (ops : Array Oper) (Q : Exit → Act → World → Prop) (S : World → Prop) (T : Nat → Bool) : Nat → Array Bool → Act → World → Prop
  | 0, listed, a, w => Region.ready md ops listed = [] ∧ Q .normal a w
  | fuel + 1, listed, a, w => (Region.ready md ops listed = [] → Q .normal a w) ∧
    ∀ i ∈ Region.ready md ops listed, wpOp P ops Q i (fun a' w' => (T i = false → S w') ∧ wpAnyT P md ops Q S T fuel (listed.setIfInBounds i true) a' w') a w
theorem wpAny_of_T : ∀ (fuel : Nat) (listed : Array Bool) (a : Act) (w : World), wpAnyT P md ops Q S T fuel listed a w → wpAny P md ops Q fuel listed a w
  | 0, _, _, _, h => h
  | fuel + 1, _, _, _, h => ⟨h.1, fun i hi => wpOp_mono (fun a' w' k => wpAny_of_T fuel _ a' w' k.2) (h.2 i hi)⟩
/-- What waits for i. -/
def waits (md : Region.Mode) (ops : Array Oper) (i j : Nat) : Bool := match ops[j]? with
  | some o => o.after.any fun e => Region.binds md e && e.on == i
  | none => true
theorem not_waits {i j : Nat} {oj : Oper} (hj : ops[j]? = some oj) (hw : waits md ops i j = true) : ∃ e ∈ oj.after, Region.binds md e = true ∧ e.on = i := by
  unfold waits at hw
  rw [hj] at hw
  obtain ⟨e, he, h⟩ := Array.any_eq_true'.1 hw
  simp only [Bool.and_eq_true, beq_iff_eq] at h
  exact ⟨e, he, h.1, h.2⟩
theorem wpAnyT_first {i : Nat} {oi : Oper} {v : Value} (hi : ops[i]? = some oi) (hsel : ∀ (j : Nat) (o : Oper) cs b, ops[j]? = some o → o.op ≠ .select cs b)
    (hQ : ∀ c a w, Q (.panic c) (a.put oi.dst v) w → Q (.panic c) a w) (hT : ∀ j, T j = true → waits md ops i j = true) :
    ∀ (fuel : Nat) (listed : Array Bool) (a : Act) (w : World),
      (∀ j oj, ops[j]? = some oj → j ≠ i → listed.getD j true = false → (∀ e ∈ oj.after, Region.binds md e = true → e.on ≠ i) → oi.apart ops oj = true) →
      i ∈ Region.ready md ops listed → YieldsIf P ops S oi v a → S w →
      wpAnyT P md ops Q S T fuel (listed.setIfInBounds i true) (a.put oi.dst v) w → wpAnyT P md ops Q S T (fuel + 1) listed a w := by
  intro fuel
  induction fuel with
  | zero =>
    intro listed a w _ hr hy hS H
    refine ⟨fun h => (by rw [h] at hr; cases hr), fun j hj => ?_⟩
    by_cases hji : j = i
    · subst hji; exact hy.wpOp hi hS ⟨fun _ => hS, H⟩
    · have h0 := ready_mono hj hji
      rw [H.1] at h0
      cases h0
  | succ fuel ih =>
    intro listed a w hfree hr hy hS H
    refine ⟨fun h => (by rw [h] at hr; cases hr), fun j hj => ?_⟩
    by_cases hji : j = i
    · subst hji; exact hy.wpOp hi hS ⟨fun _ => hS, H⟩
    · obtain ⟨hjun, oj, hoj, hall⟩ := mem_ready.1 hj
      have hiun := (mem_ready.1 hr).1
      have hnot : ∀ e ∈ oj.after, Region.binds md e = true → e.on ≠ i := fun e he hb heq => by
        have h1 := hall e he hb
        rw [heq] at h1
        rcases Nat.lt_or_ge i listed.size with h' | h'
        · simp [h'] at hiun h1; rw [hiun] at h1; cases h1
        · simp [Array.getElem?_eq_none h'] at h1
      have hTj : T j = false := by
        cases hc : T j with
        | false => rfl
        | true =>
          obtain ⟨e, he, hb, ho⟩ := not_waits hoj (hT j hc)
          exact absurd ho (hnot e he hb)
      have k := wpOp_putIf hoj (hfree j oj hoj hji hjun hnot) (fun cs b => hsel i oi cs b hi) (fun cs b => hsel j oj cs b hoj) hQ hy (H.2 j (ready_mono hj hji))
      refine wpOp_mono (fun a' w' q => ⟨fun _ => q.2.1 hTj, ih (listed.setIfInBounds j true) a' w' (fun m om hm hmi hun hno => hfree m om hm hmi ?_ hno) (ready_mono hr (Ne.symm hji)) q.1 (q.2.1 hTj) ?_⟩) k
      · by_cases hjm : j = m
        · subst hjm; exact hjun
        · rw [getD_set_ne true hjm] at hun; exact hun
      · rw [Array.setIfInBounds_comm _ _ hji]
        exact q.2.2
/-- Number i is taken first; all of T waits for it. -/
theorem wpAnyT_take {i : Nat} {oi : Oper} {v : Value} {fuel : Nat} {listed : Array Bool} {a : Act} {w : World} (hi : ops[i]? = some oi)
    (hs : Region.noSelect ops = true) (hf : Region.free md ops listed i = true) (hr : (Region.ready md ops listed).contains i = true)
    (hQ : ∀ c a w, Q (.panic c) (a.put oi.dst v) w → Q (.panic c) a w) (hT : ∀ j, T j = true → waits md ops i j = true) (hy : YieldsIf P ops S oi v a) (hS : S w)
    (h : wpAnyT P md ops Q S T fuel (listed.setIfInBounds i true) (a.put oi.dst v) w) : wpAnyT P md ops Q S T (fuel + 1) listed a w :=
  wpAnyT_first hi (Region.noSelect_spec hs) hQ hT fuel listed a w (Region.free_spec hi hf) (by simpa using hr) hy hS h
/-- A pure operation of T is taken first: S is not asked. -/
theorem wpAnyT_first0 {i : Nat} {oi : Oper} {v : Value} (hi : ops[i]? = some oi) (hsel : ∀ (j : Nat) (o : Oper) cs b, ops[j]? = some o → o.op ≠ .select cs b)
    (hQ : ∀ c a w, Q (.panic c) (a.put oi.dst v) w → Q (.panic c) a w) (hTi : T i = true) :
    ∀ (fuel : Nat) (listed : Array Bool) (a : Act) (w : World),
      (∀ j oj, ops[j]? = some oj → j ≠ i → listed.getD j true = false → (∀ e ∈ oj.after, Region.binds md e = true → e.on ≠ i) → oi.apart ops oj = true) →
      i ∈ Region.ready md ops listed → YieldsIf P ops (fun _ => True) oi v a →
      wpAnyT P md ops Q S T fuel (listed.setIfInBounds i true) (a.put oi.dst v) w → wpAnyT P md ops Q S T (fuel + 1) listed a w := by
  have hno : ∀ w : World, T i = false → S w := fun w h => by rw [hTi] at h; cases h
  intro fuel
  induction fuel with
  | zero =>
    intro listed a w _ hr hy H
    refine ⟨fun h => (by rw [h] at hr; cases hr), fun j hj => ?_⟩
    by_cases hji : j = i
    · subst hji; exact hy.wpOp hi trivial ⟨hno w, H⟩
    · have h0 := ready_mono hj hji
      rw [H.1] at h0
      cases h0
  | succ fuel ih =>
    intro listed a w hfree hr hy H
    refine ⟨fun h => (by rw [h] at hr; cases hr), fun j hj => ?_⟩
    by_cases hji : j = i
    · subst hji; exact hy.wpOp hi trivial ⟨hno w, H⟩
    · obtain ⟨hjun, oj, hoj, hall⟩ := mem_ready.1 hj
      have hiun := (mem_ready.1 hr).1
      have hnot : ∀ e ∈ oj.after, Region.binds md e = true → e.on ≠ i := fun e he hb heq => by
        have h1 := hall e he hb
        rw [heq] at h1
        rcases Nat.lt_or_ge i listed.size with h' | h'
        · simp [h'] at hiun h1; rw [hiun] at h1; cases h1
        · simp [Array.getElem?_eq_none h'] at h1
      have k := wpOp_putIf hoj (hfree j oj hoj hji hjun hnot) (fun cs b => hsel i oi cs b hi) (fun cs b => hsel j oj cs b hoj) hQ hy (H.2 j (ready_mono hj hji))
      refine wpOp_mono (fun a' w' q => ⟨q.2.1, ih (listed.setIfInBounds j true) a' w' (fun m om hm hmi hun hno => hfree m om hm hmi ?_ hno) (ready_mono hr (Ne.symm hji)) q.1 ?_⟩) k
      · by_cases hjm : j = m
        · subst hjm; exact hjun
        · rw [getD_set_ne true hjm] at hun; exact hun
      · rw [Array.setIfInBounds_comm _ _ hji]
        exact q.2.2
theorem wpAnyT_take0 {i : Nat} {oi : Oper} {v : Value} {fuel : Nat} {listed : Array Bool} {a : Act} {w : World} (hi : ops[i]? = some oi)
    (hs : Region.noSelect ops = true) (hf : Region.free md ops listed i = true) (hr : (Region.ready md ops listed).contains i = true)
    (hQ : ∀ c a w, Q (.panic c) (a.put oi.dst v) w → Q (.panic c) a w) (hTi : T i = true) (hy : YieldsIf P ops (fun _ => True) oi v a)
    (h : wpAnyT P md ops Q S T fuel (listed.setIfInBounds i true) (a.put oi.dst v) w) : wpAnyT P md ops Q S T (fuel + 1) listed a w :=
  wpAnyT_first0 hi (Region.noSelect_spec hs) hQ hTi fuel listed a w (Region.free_spec hi hf) (by simpa using hr) hy h
def AllT (P : Program) (md : Region.Mode) (ops : Array Oper) (Q : Exit → Act → World → Prop) (S : World → Prop) (T : Nat → Bool) (fuel : Nat) (listed : Array Bool) (a : Act) (w : World) (rs : List Nat) : Prop :=
  ∀ i ∈ rs, wpOp P ops Q i (fun a' w' => (T i = false → S w') ∧ wpAnyT P md ops Q S T fuel (listed.setIfInBounds i true) a' w') a w
theorem AllT.nil {fuel : Nat} {listed : Array Bool} {a : Act} {w : World} : AllT P md ops Q S T fuel listed a w [] := fun _ h => by cases h
theorem AllT.cons {fuel : Nat} {listed : Array Bool} {a : Act} {w : World} {i : Nat} {o : Oper} {rs : List Nat} (ho : ops[i]? = some o)
    (h : ∀ K' : Act → World → Prop, Shut (∀ a w, (T i = false → S w) → ((T i = false → S w) → wpAnyT P md ops Q S T fuel (listed.setIfInBounds i true) a w) → K' a w) → if Region.wanted o (yielded ops a.tmps) = true then Oper.wp P o a w K' Q else K' (a.put o.dst undef) w)
    (hs : AllT P md ops Q S T fuel listed a w rs) : AllT P md ops Q S T fuel listed a w (i :: rs) := fun j hj => by
  rcases List.mem_cons.1 hj with rfl | hj
  · exact wpOp_step ho (fun K' hK => h K' (fun a w hS hW => hK a w ⟨hS, hW hS⟩))
  · exact hs j hj
theorem wpAnyT_ready {rs : List Nat} {fuel : Nat} {listed : Array Bool} {a : Act} {w : World} (hr : Region.ready md ops listed = rs) (hne : rs ≠ [])
    (h : AllT P md ops Q S T fuel listed a w rs) : wpAnyT P md ops Q S T (fuel + 1) listed a w := ⟨fun h0 => absurd (hr ▸ h0) hne, hr ▸ h⟩
theorem wpAnyT_done {listed : Array Bool} {a : Act} {w : World} (hr : Region.ready md ops listed = []) (h : Q .normal a w) : ∀ fuel, wpAnyT P md ops Q S T fuel listed a w
  | 0 => ⟨hr, h⟩
  | _ + 1 => ⟨fun _ => h, by rw [hr]; simp⟩
theorem region_t {id : Nat} {a : Act} {w : World} (hm : P.follows .mixedOrders = true) (L : List Nat) (T : Nat → Bool)
    (h : Ex w L w.drew → wpAnyT P .any ops Q (Ex w L) T ops.size (Array.replicate ops.size false) a w.drew) : (Code.region id ops true).wp P Q a w :=
  wp_region_any hm (wpAny_of_T _ _ _ _ (h Ex.dr))
/-- All of a finite T waits. -/
theorem T_waits {i : Nat} {L : List Nat} (h : (L.all fun j => waits md ops i j) = true) : ∀ j, (L.contains j) = true → waits md ops i j = true := fun j hj => by
  have := List.all_eq_true.1 h j (by simpa using hj)
  exact this
end
/-! ### The same, short: what is alike in every step is found by itself -/
section
variable {P : Program} {ops : Array Oper} {Q : Exit → Act → World → Prop} {md : Region.Mode} {w0 : World} {L Ts : List Nat}
theorem rgn {id : Nat} {a : Act} {w : World} (L Ts : List Nat) (h : Ex w L w.drew → wpAnyT P .any ops Q (Ex w L) Ts.contains ops.size (Array.replicate ops.size false) a w.drew) (hm : P.follows .mixedOrders = true := by kernel_rfl) : (Code.region id ops true).wp P Q a w := region_t hm L Ts.contains h
theorem tk (i : Nat) {oi : Oper} {v : Value} {fuel : Nat} {listed : Array Bool} {a a' : Act} {w : World} (hS : Ex w0 L w) (h : wpAnyT P md ops Q (Ex w0 L) Ts.contains fuel (listed.setIfInBounds i true) a' w)
    (hi : ops[i]? = some oi := by simp; rfl) (hs : Region.noSelect ops = true := by kernel_rfl) (hf : Region.free md ops listed i = true := by kernel_rfl) (hr : (Region.ready md ops listed).contains i = true := by kernel_rfl)
    (hQ : ∀ c a w, Q (.panic c) (a.put oi.dst v) w → Q (.panic c) a w := by exact fun _ _ _ h => h) (hT : (Ts.all fun j => waits md ops i j) = true := by kernel_rfl) (hw : Region.wanted oi (yielded ops a.tmps) = true := by rfl)
    (hy : ∀ wx, Ex w0 L wx → (execOp a.eval oi).run P wx = .ok (.value v) wx := by (intro wx hSw; have hSx := Ex1.mk hSw; go_simp; try with_reducible rfl))
    (ha : a.put oi.dst v = a' := by (simp only [Act.put, List.setIfInBounds_toArray, List.set_cons_zero, List.set_cons_succ]; first | done | rfl)) : wpAnyT P md ops Q (Ex w0 L) Ts.contains (fuel + 1) listed a w := by
  subst ha; exact wpAnyT_take hi hs hf hr hQ (T_waits hT) (Or.inl ⟨hw, hy⟩) hS h
/-- One that its guard passes over. -/
theorem tkU (i : Nat) {oi : Oper} {fuel : Nat} {listed : Array Bool} {a a' : Act} {w : World} (hS : Ex w0 L w) (h : wpAnyT P md ops Q (Ex w0 L) Ts.contains fuel (listed.setIfInBounds i true) a' w)
    (hi : ops[i]? = some oi := by simp; rfl) (hs : Region.noSelect ops = true := by kernel_rfl) (hf : Region.free md ops listed i = true := by kernel_rfl) (hr : (Region.ready md ops listed).contains i = true := by kernel_rfl)
    (hQ : ∀ c a w, Q (.panic c) (a.put oi.dst undef) w → Q (.panic c) a w := by exact fun _ _ _ h => h) (hT : (Ts.all fun j => waits md ops i j) = true := by kernel_rfl) (hw : Region.wanted oi (yielded ops a.tmps) = false := by rfl)
    (ha : a.put oi.dst undef = a' := by (simp only [Act.put, List.setIfInBounds_toArray, List.set_cons_zero, List.set_cons_succ]; first | done | rfl)) : wpAnyT P md ops Q (Ex w0 L) Ts.contains (fuel + 1) listed a w := by
  subst ha; exact wpAnyT_take hi hs hf hr hQ (T_waits hT) (Or.inr ⟨hw, rfl⟩) hS h
/-- A pure one of T. -/
theorem tk0 (i : Nat) {oi : Oper} {v : Value} {fuel : Nat} {listed : Array Bool} {a a' : Act} {w : World} (h : wpAnyT P md ops Q (Ex w0 L) Ts.contains fuel (listed.setIfInBounds i true) a' w)
    (hi : ops[i]? = some oi := by simp; rfl) (hs : Region.noSelect ops = true := by kernel_rfl) (hf : Region.free md ops listed i = true := by kernel_rfl) (hr : (Region.ready md ops listed).contains i = true := by kernel_rfl)
    (hQ : ∀ c a w, Q (.panic c) (a.put oi.dst v) w → Q (.panic c) a w := by exact fun _ _ _ h => h) (hTi : Ts.contains i = true := by rfl) (hw : Region.wanted oi (yielded ops a.tmps) = true := by rfl)
    (hy : ∀ wx, True → (execOp a.eval oi).run P wx = .ok (.value v) wx := by (intro wx _; go_simp; try with_reducible rfl))
    (ha : a.put oi.dst v = a' := by (simp only [Act.put, List.setIfInBounds_toArray, List.set_cons_zero, List.set_cons_succ]; first | done | rfl)) : wpAnyT P md ops Q (Ex w0 L) Ts.contains (fuel + 1) listed a w := by
  subst ha; exact wpAnyT_take0 hi hs hf hr hQ hTi (Or.inl ⟨hw, hy⟩) h
/-- The only one that may come up. -/
theorem st (i : Nat) {o : Oper} {fuel : Nat} {listed : Array Bool} {a : Act} {w : World}
    (h : ∀ K' : Act → World → Prop, Shut (∀ a w, (Ts.contains i = false → Ex w0 L w) → ((Ts.contains i = false → Ex w0 L w) → wpAnyT P md ops Q (Ex w0 L) Ts.contains fuel (listed.setIfInBounds i true) a w) → K' a w) → if Region.wanted o (yielded ops a.tmps) = true then Oper.wp P o a w K' Q else K' (a.put o.dst undef) w)
    (hr : Region.ready md ops listed = [i] := by kernel_rfl) (ho : ops[i]? = some o := by simp; rfl) : wpAnyT P md ops Q (Ex w0 L) Ts.contains (fuel + 1) listed a w := wpAnyT_ready hr (by simp) (AllT.cons ho h AllT.nil)
theorem hd {K : Act → World → Prop} {i fuel : Nat} {listed : Array Bool} {a a' : Act} {w : World} (hK : Shut (∀ a w, (Ts.contains i = false → Ex w0 L w) → ((Ts.contains i = false → Ex w0 L w) → wpAnyT P md ops Q (Ex w0 L) Ts.contains fuel listed a w) → K a w)) [hS : Ex w0 L w]
    (h : Ex w0 L w → wpAnyT P md ops Q (Ex w0 L) Ts.contains fuel listed a' w) (ha : a = a' := by (try simp only [Act.put, List.setIfInBounds_toArray, List.set_cons_zero, List.set_cons_succ]); first | done | rfl) : K a w :=
  hK.out a w (fun _ => hS) (fun _ => by subst ha; exact h hS)
theorem hdT {K : Act → World → Prop} {i fuel : Nat} {listed : Array Bool} {a a' : Act} {w : World} (hK : Shut (∀ a w, (Ts.contains i = false → Ex w0 L w) → ((Ts.contains i = false → Ex w0 L w) → wpAnyT P md ops Q (Ex w0 L) Ts.contains fuel listed a w) → K a w))
    (h : wpAnyT P md ops Q (Ex w0 L) Ts.contains fuel listed a' w) (hTi : Ts.contains i = true := by rfl) (ha : a = a' := by (try simp only [Act.put, List.setIfInBounds_toArray, List.set_cons_zero, List.set_cons_succ]); first | done | rfl) : K a w :=
  hK.out a w (fun e => by rw [hTi] at e; cases e) (fun _ => by subst ha; exact h)
theorem dn {fuel : Nat} {listed : Array Bool} {a : Act} {w : World} (h : Q .normal a w) (hr : Region.ready md ops listed = [] := by kernel_rfl) : wpAnyT P md ops Q (Ex w0 L) Ts.contains fuel listed a w := wpAnyT_done hr h fuel
end
/-- The block q was made after w0: it is none of those that w0 had. -/
class Nw (w0 : outParam World) (q : Nat) : Prop where out : w0.heap.size ≤ q
instance LtN.nw {w0 : World} {b q : Nat} {t : TypeId} {l : List Value} [n : Nw w0 q] [h : Bx w0 b t l] : LtN b q := ⟨Nat.lt_of_lt_of_le h.lt n.out⟩
/-- A region, its first world by name. -/
theorem rgnW {P : Program} {ops : Array Oper} {Q : Exit → Act → World → Prop} {id : Nat} {a : Act} {w : World} (L Ts : List Nat) (h : ∀ w0, Hid (w0 = w) → Ex w L w.drew → wpAnyT P .any ops Q (Ex w L) Ts.contains ops.size (Array.replicate ops.size false) a w.drew) (hm : P.follows .mixedOrders = true := by kernel_rfl) : (Code.region id ops true).wp P Q a w := region_t hm L Ts.contains (h w (Lib.hid rfl))
theorem kpOf {w0 w : World} (e : Hid (w0 = w)) {W : World} [h : Kp w W] : Kp w0 W := by rw [e.out]; exact h
theorem ggOf {w0 w : World} (e : Hid (w0 = w)) {b : Nat} (h : Gg w0 b) : Gg w b := by rw [← e.out]; exact h
theorem nwOf {w0 w : World} (e : Hid (w0 = w)) {b : Nat} (h : Ge w0 b) : Nw w b := by rw [← e.out]; exact ⟨h.out⟩
end Go.Proofs.YtdlnoeegboapkaaGreatDoor

/- errors.Is at a sentinel of errors.New's make: of nil, and of an error of package api (after the kit's worked example 'sentry'). -/
namespace Go.Proofs.YtdlnoeegboapkaaGreatDoor
open Go.RowKit Go.Extern.Stop Go.Stop Go.Extern

theorem Tryz.isTypeOf (v : Value) (w : World) : (Extern.ReflectliteType.typeOf #[.iface 365 v]).run Tryz.prog w = .ok (.iface 217 (.agg #[.pointer (some ⟨10, 365, none⟩)])) w := by kernel_rfl
/-- The model's entry for (rtype).Comparable. -/
def cmpE : Array Value → Sem Value := Extern.ReflectliteType.method fun t => do Rtype.noPackHeld "Comparable" t; pure (.bool (← typeInfo t).comparable)
theorem Tryz.isComparable (w : World) : (cmpE #[.agg #[.pointer (some ⟨10, 365, none⟩)]]).run Tryz.prog w = .ok (.bool true) w := by kernel_rfl
theorem Tryz.isMethodComparable (v : Value) (w : World) : (Go.method 500 217 v "Comparable").run Tryz.prog w = .ok (324, v) w := by kernel_rfl
theorem Tryz.isComp : (Tryz.prog.info? 365).map (·.comparable) = some true := by kernel_rfl
theorem Tryz.isSize : (Tryz.prog.info? 388).map (·.size) = some 1 := by kernel_rfl
theorem Tryz.noIsE (v : Value) (xT : TypeId) (w : World) : (Instr.typeAssert (.iface 365 v) xT 219 true).run Tryz.prog w = .ok (.tuple #[.nilIface, .bool false]) w := run_typeAssert_lacksB Tryz.underlying219 (by kernel_rfl) (by kernel_rfl) v xT w
theorem Tryz.noUnwrapE (v : Value) (xT : TypeId) (w : World) : (Instr.typeAssert (.iface 365 v) xT 222 true).run Tryz.prog w = .ok (.tuple #[.nilIface, .bool false]) w := run_typeAssert_lacksB Tryz.underlying222 (by kernel_rfl) (by kernel_rfl) v xT w
theorem Tryz.noUnwrapsE (v : Value) (xT : TypeId) (w : World) : (Instr.typeAssert (.iface 365 v) xT 224 true).run Tryz.prog w = .ok (.tuple #[.nilIface, .bool false]) w := run_typeAssert_lacksB Tryz.underlying224 (by kernel_rfl) (by kernel_rfl) v xT w
theorem Tryz.noIsW (v : Value) (xT : TypeId) (w : World) : (Instr.typeAssert (.iface 114 v) xT 219 true).run Tryz.prog w = .ok (.tuple #[.nilIface, .bool false]) w := run_typeAssert_lacksB Tryz.underlying219 (by kernel_rfl) (by kernel_rfl) v xT w
theorem Tryz.hasUnwrapW (v : Value) (xT : TypeId) (w : World) : (Instr.typeAssert (.iface 114 v) xT 222 true).run Tryz.prog w = .ok (.tuple #[.iface 114 v, .bool true]) w := run_typeAssert_hasB Tryz.underlying222 (by kernel_rfl) v xT w
theorem Tryz.methodUnwrap (v : Value) (w : World) : (Go.method 500 114 v "Unwrap").run Tryz.prog w = .ok (319, v) w := by kernel_rfl

/-- errors.Is(nil, x). -/
theorem is_nil (b : Addr) (w : World) :
    Calls Tryz.prog 18 #[.nilIface, .iface 365 (.pointer (some b))] w fun e w' => e = .returned (.bool false) ∧ w = w' := by
  have hn := run_eql_iface_nil_left (P := Tryz.prog) w 365 (.pointer (some b)) Tryz.underlying36
  go_enter Tryz.func18, Tryz.ntmps18
  go_wp2
  go_ret
  exact ⟨rfl, rfl⟩

/-- errors.Is(e, x), e an error of package api whose kind is x itself. -/
theorem is_err_same (pb : Nat) (b : Addr) (w : World) (h1 : w.cell? ⟨pb, 0, none⟩ = some (.iface 365 (.pointer (some b)))) :
    Calls Tryz.prog 18 #[.iface 114 (.pointer (some ⟨pb, 0, none⟩)), .iface 365 (.pointer (some b))] w fun e w' => e = .returned (.bool true) ∧ w = w' := by
  obtain ⟨i, hi, hcmp⟩ := Option.map_eq_some_iff.1 Tryz.isComp
  obtain ⟨j, hj, hjs⟩ := Option.map_eq_some_iff.1 Tryz.isSize
  have h8 := @run_callFunc_extern Tryz.prog 70 _ Extern.ReflectliteType.typeOf Tryz.func70 (by kernel_rfl) (by kernel_rfl) (by kernel_rfl) (by kernel_rfl)
  have h32 := @run_callFunc_extern Tryz.prog 324 _ cmpE Tryz.func324 (by kernel_rfl) (by kernel_rfl) (by kernel_rfl) (by kernel_rfl)
  have tT := Tryz.isTypeOf
  have cT := Tryz.isComparable
  have mR := Tryz.isMethodComparable
  have nE := Tryz.noIsE
  have uE := Tryz.noUnwrapE
  have vE := Tryz.noUnwrapsE
  have nW := Tryz.noIsW
  have uW := Tryz.hasUnwrapW
  have mU := Tryz.methodUnwrap
  have heq := run_eql_iface_ptr_same (P := Tryz.prog) w b Tryz.underlying36 Tryz.underlying365 hi hcmp hj
  have hty := run_eql_iface_types (P := Tryz.prog) 114 365 (.pointer (some ⟨pb, 0, none⟩)) (.pointer (some b)) Tryz.underlying36 (by decide) w
  go_enter Tryz.func18, Tryz.ntmps18
  go_wp2
  refine wp_loop_rounds 2 ?_
  rw [rounds_succ]
  go_wp2
  rw [rounds_succ]
  go_wp2
  go_ret
  exact ⟨rfl, rfl⟩

/-- errors.Is(e, x), e an error of package api whose kind is another sentinel. -/
theorem is_err_other (pb : Nat) (b a : Addr) (ca cb : Array Value) (ta tb : TypeId) (w : World) (h1 : w.cell? ⟨pb, 0, none⟩ = some (.iface 365 (.pointer (some a)))) (hne : a ≠ b) (ha : w.heap[a.block]? = some (.cells ca ta (0, 0))) (hb : w.heap[b.block]? = some (.cells cb tb (0, 0))) :
    Calls Tryz.prog 18 #[.iface 114 (.pointer (some ⟨pb, 0, none⟩)), .iface 365 (.pointer (some b))] w fun e w' => e = .returned (.bool false) ∧ w = w' := by
  obtain ⟨i, hi, hcmp⟩ := Option.map_eq_some_iff.1 Tryz.isComp
  obtain ⟨j, hj, hjs⟩ := Option.map_eq_some_iff.1 Tryz.isSize
  have h8 := @run_callFunc_extern Tryz.prog 70 _ Extern.ReflectliteType.typeOf Tryz.func70 (by kernel_rfl) (by kernel_rfl) (by kernel_rfl) (by kernel_rfl)
  have h32 := @run_callFunc_extern Tryz.prog 324 _ cmpE Tryz.func324 (by kernel_rfl) (by kernel_rfl) (by kernel_rfl) (by kernel_rfl)
  have tT := Tryz.isTypeOf
  have cT := Tryz.isComparable
  have mR := Tryz.isMethodComparable
  have nE := Tryz.noIsE
  have uE := Tryz.noUnwrapE
  have vE := Tryz.noUnwrapsE
  have nW := Tryz.noIsW
  have uW := Tryz.hasUnwrapW
  have mU := Tryz.methodUnwrap
  have heq := run_eql_iface_ptr_other (P := Tryz.prog) w Tryz.underlying36 Tryz.underlying365 hi hcmp hj (by rw [hjs]; decide) hne ha hb
  have hty := run_eql_iface_types (P := Tryz.prog) 114 365 (.pointer (some ⟨pb, 0, none⟩)) (.pointer (some b)) Tryz.underlying36 (by decide) w
  go_enter Tryz.func18, Tryz.ntmps18
  go_wp2
  refine wp_loop_rounds 2 ?_
  rw [rounds_succ]
  go_wp2
  rw [rounds_succ]
  go_wp2
  go_ret
  exact ⟨rfl, rfl⟩
end Go.Proofs.YtdlnoeegboapkaaGreatDoor

/- Sentinels of package api in memory, as a class: the variable g holds a pointer to an error of errors.New's make; both lie below what the world w0 held. errors.Is in these words. -/
namespace Go.Proofs.YtdlnoeegboapkaaGreatDoor
open Go.RowKit

instance : BoxT 116 := by constructor <;> decide
instance {t : TypeId} {v : Value} : Ndg (.iface t v) := ⟨rfl⟩
instance : Ndg .nilIface := ⟨rfl⟩
instance {s : ByteArray} : Ndg (.string s) := ⟨rfl⟩
/-- The variable g holds the sentinel at a. -/
class Snt (W : World) (g : Nat) (a : outParam Addr) (w0 : outParam World) : Prop where
  cell : W.cell? ⟨g, 0, none⟩ = some (.iface 365 (.pointer (some a)))
  row : ∃ c t, W.heap[a.block]? = some (.cells c t (0, 0))
  lt : g < w0.heap.size ∧ a.block < w0.heap.size
  ltW : g < W.heap.size ∧ a.block < W.heap.size
theorem Snt.mk1 {W : World} {g : Nat} {a : Addr} (h1 : W.cell? ⟨g, 0, none⟩ = some (.iface 365 (.pointer (some a)))) (h2 : ∃ c t, W.heap[a.block]? = some (.cells c t (0, 0))) : Snt W g a W := by
  obtain ⟨c, t, h⟩ := h2
  exact ⟨h1, ⟨c, t, h⟩, ⟨lt_of_cell h1, heap_lt h⟩, ⟨lt_of_cell h1, heap_lt h⟩⟩
theorem Snt.here {W w0 : World} {g : Nat} {a : Addr} (h : Snt W g a w0) : Snt W g a W := ⟨h.cell, h.row, h.ltW, h.ltW⟩
theorem Snt.keep {W W2 w0 : World} {g : Nat} {a : Addr} (h : Snt W g a w0) (hs : W.heap.size ≤ W2.heap.size) (hg : W2.heap[g]? = W.heap[g]?) (ha : W2.heap[a.block]? = W.heap[a.block]?) : Snt W2 g a w0 := by
  refine ⟨?_, ?_, h.lt, ⟨Nat.lt_of_lt_of_le h.ltW.1 hs, Nat.lt_of_lt_of_le h.ltW.2 hs⟩⟩
  · have := h.cell
    unfold World.cell? at this ⊢
    simp only [hg]; exact this
  · rw [ha]; exact h.row
instance Snt.al {W w0 : World} {g : Nat} {a : Addr} {o : Obj} [h : Snt W g a w0] : Snt (W.alloc o) g a w0 := h.keep (by rw [World.size_alloc]; omega) (heap_al_lt h.ltW.1) (heap_al_lt h.ltW.2)
instance Snt.dr {W w0 : World} {g : Nat} {a : Addr} [h : Snt W g a w0] : Snt W.drew g a w0 := h.keep (Nat.le_refl _) rfl rfl
instance Snt.drN {W w0 : World} {g j : Nat} {a : Addr} [h : Snt W g a w0] : Snt (W.drewN j) g a w0 := h.keep (Nat.le_refl _) rfl rfl
instance (priority := low) Snt.kp {W W2 w0 : World} {g : Nat} {a : Addr} [k : Kp1 W W2] [h : Snt W g a w0] : Snt W2 g a w0 := h.keep k.out.size (k.out.block _ h.ltW.1) (k.out.block _ h.ltW.2)
instance (priority := low) Snt.tp {W W2 w0 : World} {g g' : Nat} {a : Addr} [k : Tp1 W W2 g'] [h : Snt W g a w0] [n : Ge w0 g'] : Snt W2 g a w0 := h.keep k.gb.size
  (k.gb.block _ h.ltW.1 (fun e => by injection e with e; have := n.out; have := h.lt.1; omega)) (k.gb.block _ h.ltW.2 (fun e => by injection e with e; have := n.out; have := h.lt.2; omega))
instance Snt.st {W w0 : World} {g q i : Nat} {a : Addr} {x : Value} [h : Snt W g a w0] [n : Ge w0 q] : Snt (W.setCell ⟨q, i, none⟩ x) g a w0 := h.keep (by rw [World.size_setCell]; omega)
  (by simp only [World.setCell, Array.getElem?_modify]; rw [if_neg (by have := n.out; have := h.lt.1; omega)])
  (by simp only [World.setCell, Array.getElem?_modify]; rw [if_neg (by have := n.out; have := h.lt.2; omega)])
/-- All blocks of the list lie behind what w0 held. -/
class GeL (w0 : World) (L : List Nat) : Prop where out : ∀ q ∈ L, w0.heap.size ≤ q
instance GeL.nil {w0 : World} : GeL w0 [] := ⟨fun _ h => nomatch h⟩
instance GeL.cons {w0 : World} {q : Nat} {L : List Nat} [h1 : Ge w0 q] [h2 : GeL w0 L] : GeL w0 (q :: L) := ⟨fun x h => by
  rcases List.mem_cons.1 h with rfl | h
  · exact h1.out
  · exact h2.out _ h⟩
instance (priority := low) Snt.ex {W0 W w0 : World} {L : List Nat} {g : Nat} {a : Addr} [e : Ex1 W0 L W] [h : Snt W0 g a w0] [n : GeL w0 L] : Snt W g a w0 := h.keep e.out.size
  (e.out.block _ h.ltW.1 (fun hm => by have := n.out _ hm; have := h.lt.1; omega)) (e.out.block _ h.ltW.2 (fun hm => by have := n.out _ hm; have := h.lt.2; omega))
@[go_sem] theorem cell_snt {W w0 : World} {g : Nat} {a : Addr} [h : Snt W g a w0] : W.cell? ⟨g, 0, none⟩ = some (.iface 365 (.pointer (some a))) := h.cell
theorem isNilC {w : World} (a : Addr) : Calls Tryz.prog 18 #[.nilIface, .iface 365 (.pointer (some a))] w fun e w' => e = .returned (.bool false) ∧ w = w' := is_nil a w
theorem isSameC {w : World} {b : Nat} {a : Addr} {l c : Int} {s : ByteArray} [h : Bx w b 116 [.iface 365 (.pointer (some a)), .int .i64 l, .int .i64 c, .string s]] :
    Calls Tryz.prog 18 #[.iface 114 (.pointer (some ⟨b, 0, none⟩)), .iface 365 (.pointer (some a))] w fun e w' => e = .returned (.bool true) ∧ w = w' :=
  is_err_same b a w (by rw [cell_bx]; rfl)
theorem isOtherC {w w1 w2 : World} {b g1 g2 : Nat} {a a2 : Addr} {l c : Int} {s : ByteArray} [h : Bx w b 116 [.iface 365 (.pointer (some a)), .int .i64 l, .int .i64 c, .string s]] (h1 : Snt w g1 a w1) (h2 : Snt w g2 a2 w2) (hne : a ≠ a2) :
    Calls Tryz.prog 18 #[.iface 114 (.pointer (some ⟨b, 0, none⟩)), .iface 365 (.pointer (some a2))] w fun e w' => e = .returned (.bool false) ∧ w = w' := by
  obtain ⟨c1, t1, e1⟩ := h1.row
  obtain ⟨c2, t2, e2⟩ := h2.row
  exact is_err_other b a2 a c1 c2 t1 t2 w (by rw [cell_bx]; rfl) hne e1 e2
end Go.Proofs.YtdlnoeegboapkaaGreatDoor

/- Rows of the call's own that grow by append, as a class; what an append leaves as it was. -/
namespace Go.Proofs.YtdlnoeegboapkaaGreatDoor
open Go.RowKit

/-- The slice v is a row of the call's own, of n elements of sz cells each; its block lies from base on, and below what w0 held. -/
class Rw (W : World) (v : Value) (e : outParam TypeId) (sz : outParam Nat) (n : outParam Nat) (xs : outParam (List Value)) (base : outParam Nat) (w0 : outParam World) : Prop where
  out : W.ownsRow base e sz v n xs
  lt : ∀ g, v.ownBlock = some g → g < w0.heap.size
  ltW : ∀ g, v.ownBlock = some g → g < W.heap.size
  hb : base ≤ W.heap.size
theorem Rw.mk1 {W : World} {v : Value} {e : TypeId} {sz n base : Nat} {xs : List Value} (h : W.ownsRow base e sz v n xs) (hb : base ≤ W.heap.size) : Rw W v e sz n xs base W := ⟨h, fun g e => (h.lt g e).2, fun g e => (h.lt g e).2, hb⟩
theorem Rw.here {W w0 : World} {v : Value} {e : TypeId} {sz n base : Nat} {xs : List Value} (h : Rw W v e sz n xs base w0) : Rw W v e sz n xs base W := ⟨h.out, h.ltW, h.ltW, h.hb⟩
theorem Rw.nil {W : World} {e : TypeId} {sz base : Nat} (hb : base ≤ W.heap.size) : Rw W (.slice none 0 0) e sz 0 [] base W := Rw.mk1 (World.ownsRow_nil _ _ _ _) hb
theorem Rw.keep {W W2 w0 : World} {v : Value} {e : TypeId} {sz n base : Nat} {xs : List Value} (h : Rw W v e sz n xs base w0) (hs : W.heap.size ≤ W2.heap.size) (hb : ∀ g, v.ownBlock = some g → W2.heap[g]? = W.heap[g]?) : Rw W2 v e sz n xs base w0 := by
  refine ⟨?_, h.lt, fun g e => Nat.lt_of_lt_of_le (h.ltW g e) hs, Nat.le_trans h.hb hs⟩
  obtain ⟨h1, h2⟩ := h.out
  refine ⟨h1, ?_⟩
  rcases h2 with hn | ⟨g, cap, cur, rfl, hbg, hgg, rest⟩
  · exact .inl hn
  · exact .inr ⟨g, cap, cur, rfl, hbg, by rw [hb g rfl]; exact hgg, rest⟩
instance Rw.al {W w0 : World} {v : Value} {e : TypeId} {sz n base : Nat} {xs : List Value} {o : Obj} [h : Rw W v e sz n xs base w0] : Rw (W.alloc o) v e sz n xs base w0 := h.keep (by rw [World.size_alloc]; omega) (fun g e => heap_al_lt (h.ltW g e))
instance Rw.dr {W w0 : World} {v : Value} {e : TypeId} {sz n base : Nat} {xs : List Value} [h : Rw W v e sz n xs base w0] : Rw W.drew v e sz n xs base w0 := h.keep (Nat.le_refl _) (fun _ _ => rfl)
instance Rw.drN {W w0 : World} {v : Value} {e : TypeId} {sz n base : Nat} {xs : List Value} {j : Nat} [h : Rw W v e sz n xs base w0] : Rw (W.drewN j) v e sz n xs base w0 := h.keep (Nat.le_refl _) (fun _ _ => rfl)
instance (priority := low) Rw.kp {W W2 w0 : World} {v : Value} {e : TypeId} {sz n base : Nat} {xs : List Value} [k : Kp1 W W2] [h : Rw W v e sz n xs base w0] : Rw W2 v e sz n xs base w0 := h.keep k.out.size (fun g e => k.out.block _ (h.ltW g e))
instance (priority := low) Rw.tp {W W2 w0 : World} {v : Value} {e : TypeId} {sz n base : Nat} {xs : List Value} {q : Nat} [k : Tp1 W W2 q] [h : Rw W v e sz n xs base w0] [l : LtN q base] : Rw W2 v e sz n xs base w0 := h.keep k.gb.size
  (fun g e => k.gb.block _ (h.ltW g e) (fun x => by injection x with x; have := l.out; have := (h.out.lt g e).1; omega))
instance Rw.st {W w0 : World} {v : Value} {e : TypeId} {sz n base : Nat} {xs : List Value} {q i : Nat} {x : Value} [h : Rw W v e sz n xs base w0] [l : Ge w0 q] : Rw (W.setCell ⟨q, i, none⟩ x) v e sz n xs base w0 := h.keep (by rw [World.size_setCell]; omega)
  (fun g e => by simp only [World.setCell, Array.getElem?_modify]; rw [if_neg (by have := l.out; have := h.lt g e; omega)])
instance Rw.st2 {W w0 : World} {v : Value} {e : TypeId} {sz n base : Nat} {xs : List Value} {q i : Nat} {x : Value} [h : Rw W v e sz n xs base w0] [l : LtN q base] : Rw (W.setCell ⟨q, i, none⟩ x) v e sz n xs base w0 := h.keep (by rw [World.size_setCell]; omega)
  (fun g e => by simp only [World.setCell, Array.getElem?_modify]; rw [if_neg (by have := l.out; have := (h.out.lt g e).1; omega)])
instance (priority := low) Rw.ex {W0 W w0 : World} {L : List Nat} {v : Value} {e : TypeId} {sz n base : Nat} {xs : List Value} [k : Ex1 W0 L W] [h : Rw W0 v e sz n xs base w0] [l : GeL w0 L] : Rw W v e sz n xs base w0 := h.keep k.out.size
  (fun g e => k.out.block _ (h.ltW g e) (fun hm => by have := l.out _ hm; have := h.lt g e; omega))
theorem Rw.cast {W w0 : World} {v : Value} {e : TypeId} {sz n n' base : Nat} {xs xs' : List Value} (h : Rw W v e sz n xs base w0) (e1 : n = n') (e2 : xs = xs') : Rw W v e sz n' xs' base w0 := by subst e1; subst e2; exact h
/-- From W to W2 a row has been appended to: its block lies from base on and below what w0 held; else only new memory was written. -/
class Ap1 (W : outParam World) (W2 : World) (base : outParam Nat) (w0 : outParam World) : Prop where out : ∃ row : Option Nat, W.grownBy W2 row ∧ ∀ k, row = some k → base ≤ k ∧ k < w0.heap.size
theorem Ap1.size {W W2 w0 : World} {base : Nat} (h : Ap1 W W2 base w0) : W.heap.size ≤ W2.heap.size := by obtain ⟨_, h, _⟩ := h.out; exact h.size
theorem Ap1.block {W W2 w0 : World} {base : Nat} (h : Ap1 W W2 base w0) {b : Nat} (hb : b < W.heap.size) (hn : b < base ∨ w0.heap.size ≤ b) : W2.heap[b]? = W.heap[b]? := by
  obtain ⟨row, h, hk⟩ := h.out
  exact h.block b hb (fun e => by have := hk b e.symm; omega)
instance (priority := low) Bx.ap {W W2 w0 : World} {base b : Nat} {t : TypeId} {l : List Value} [k : Ap1 W W2 base w0] [h : Bx W b t l] [n : LtN b base] : Bx W2 b t l := ⟨by rw [k.block h.lt (.inl n.out)]; exact h.out⟩
instance (priority := low) Bx.ap2 {W W2 w0 : World} {base b : Nat} {t : TypeId} {l : List Value} [k : Ap1 W W2 base w0] [h : Bx W b t l] [n : Ge w0 b] : Bx W2 b t l := ⟨by rw [k.block h.lt (.inr n.out)]; exact h.out⟩
instance (priority := low) Kp.ap {w W W2 w0 : World} {base : Nat} [k : Ap1 W W2 base w0] [h : Kp w W] [n : Ge w base] : Kp w W2 := ⟨by
  obtain ⟨row, hg, hk⟩ := k.out
  exact h.out.grown hg h.out.size (fun x e => Nat.le_trans n.out (hk x e).1)⟩
instance (priority := low) Kz.ap {w W W2 w0 : World} {base : Nat} [k : Ap1 W W2 base w0] [h : Kz w W] : Kz w W2 := ⟨Nat.le_trans h.out k.size⟩
/-- append of one element that lies in a box. -/
theorem app_rw {W w0 : World} {ops : Array Oper} {rest : List Oper} {o : Oper} {a : Act} {Q : Exit → Act → World → Prop} (hg : o.guard = none) (s x : Operand) (t : TypeId)
    (hop : o.op = .call { callee := .builtin .append, args := #[s, x], argTypes := #[t, t] }) {e : TypeId} (ht : Tryz.prog.underlying t = some (.slice e)) {z : Value} {sz bt : Nat}
    (hi : (Tryz.prog.info? e).map (fun i => (i.zero, i.size, i.bytes)) = some (some z, sz, bt)) (hzs : z.cells.size = sz) (hsz : 0 < sz) (hbt : bt ≤ 1000) {v : Value} {n : Nat} {xs : List Value} {base : Nat} (hs : a.eval s = v) [hr : Rw W v e sz n xs base w0]
    {q : Nat} {ety : TypeId} {l : List Value} (hx : a.eval x = .slice (some ⟨q, 0, none⟩) 1 1) [hb : Bx W q ety l] (hl : l.length = sz) (h1 : ∀ u ∈ l, u.oneCell' = true) (hn : n ≤ 1000000)
    (hK : ∀ g c W' [Ap1 W W' base w0] [Rw W' (.slice (some ⟨g, 0, none⟩) (n + 1) c) e sz (n + 1) (xs ++ l) base W'], wpList Tryz.prog ops Q rest (a.put o.dst (.slice (some ⟨g, 0, none⟩) (n + 1) c)) W') :
    wpList Tryz.prog ops Q (o :: rest) a W := by
  obtain ⟨i0, hi0⟩ : ∃ i0, Tryz.prog.info? e = some i0 := by
    cases h : Tryz.prog.info? e with
    | none => rw [h] at hi; cases hi
    | some i0 => exact ⟨i0, rfl⟩
  rw [hi0] at hi
  simp only [Option.map_some, Option.some.injEq, Prod.mk.injEq] at hi
  obtain ⟨hz0, hz1, hz2⟩ := hi
  refine wpList_append_own _ hg s x t hop base e i0 z sz bt ht hi0 hz0 hz1 hz2 hzs hsz v n xs hs hr.out ⟨q, 0, none⟩ 1 1 l hx (by omega) (fun j u hu => ?_) h1 (by unfold maxLen; omega) ?_ hr.hb ?_
  · have hadd : (⟨q, 0, none⟩ : Addr).add j = ⟨q, j, none⟩ := by unfold Addr.add; split <;> simp_all
    rw [hadd, cell_bx]; exact hu
  · have : (n + 1) * bt ≤ 1000001 * 1000 := Nat.mul_le_mul (by omega) hbt
    omega
  · intro v' w' h2 h3 h4
    have hne : v' ≠ .slice none 0 0 := fun e => absurd (h4.1 e).2 (by decide)
    rcases h2.2 with ⟨e', _⟩ | ⟨g, cap, cur, e', _⟩
    · exact absurd e' hne
    · subst e'
      have i1 : Ap1 W w' base w0 := ⟨⟨_, h3, fun k hk => ⟨(hr.out.lt k hk).1, hr.lt k hk⟩⟩⟩
      exact @hK g cap w' i1 (Rw.mk1 h2 (Nat.le_trans hr.hb h3.size))
end Go.Proofs.YtdlnoeegboapkaaGreatDoor
