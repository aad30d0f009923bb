/-
  Contracts as one step of a walk, and what is kept while the tape is read on.
  Printed by a small program (mkcall.py).
-/
import Derived.Test.YtlameeijogdckaaGreatInt2
import Derived.Test.YtlameeijogdckaaGreatTapeW
import Derived.Test.YtlameeijogdckaaGreatNumDiv2
import Derived.Deep.AppendLies
namespace Go.Proofs.YtlameeijogdckaaGreat
open Go.RowKit

theorem Calls.kN {P : Program} {f : FuncId} {args : Array Value} {w : World} {n k : Nat} {K : Ending → World → Prop} (h : Calls P f args w (RetN w n k))
    (hK : ∀ w', Below w.heap.size w w' → w.heap.size ≤ w'.heap.size → ∀ a l c, Nn w' (.slice a l c) n k → K (.returned (.slice a l c)) w') : Calls P f args w K := by
  refine h.mono ?_
  rintro e w' ⟨a, l, c, rfl, hn, hb⟩
  exact hK w' hb hb.size a l c hn
theorem Calls.kR {P : Program} {f : FuncId} {args : Array Value} {w : World} {n k : Nat} {K : Ending → World → Prop} (h : Calls P f args w (RetR w n k))
    (hK : ∀ w', Below w.heap.size w w' → w.heap.size ≤ w'.heap.size → ∀ a l c, Rr w' (.slice a l c) n k → K (.returned (.slice a l c)) w') : Calls P f args w K := by
  refine h.mono ?_
  rintro e w' ⟨a, l, c, rfl, hn, hb⟩
  exact hK w' hb hb.size a l c hn
theorem Calls.kE {P : Program} {f : FuncId} {args : Array Value} {w : World} {v : Value} {K : Ending → World → Prop} (h : Calls P f args w (fun e w' => e = .returned v ∧ Below w.heap.size w w'))
    (hK : ∀ w', Below w.heap.size w w' → w.heap.size ≤ w'.heap.size → K (.returned (v)) w') : Calls P f args w K := by
  refine h.mono ?_
  rintro e w' ⟨rfl, hb⟩
  exact hK w' hb hb.size
theorem Calls.kS {P : Program} {f : FuncId} {args : Array Value} {w : World} {v : Value} {K : Ending → World → Prop} (h : Calls P f args w (fun e w' => e = .returned v ∧ w = w'))
    (hK : K (.returned v) w) : Calls P f args w K := by
  refine h.mono ?_
  rintro e w' ⟨rfl, rfl⟩
  exact hK
theorem Calls.kZ {P : Program} {f : FuncId} {args : Array Value} {w : World} {z : Int} {k : Nat} {K : Ending → World → Prop} (h : Calls P f args w (RetZ w z k))
    (hK : ∀ w', Below w.heap.size w w' → w.heap.size ≤ w'.heap.size → ∀ g a l c, Zz w' g (.slice a l c) z k → K (.returned (.agg #[.bool g, .slice a l c])) w') : Calls P f args w K := by
  refine h.mono ?_
  rintro e w' ⟨g, a, l, c, rfl, hn, hb⟩
  exact hK w' hb hb.size g a l c hn
theorem Calls.kSg {P : Program} {f : FuncId} {args : Array Value} {w : World} {a : Option Addr} {l c k : Nat} {z : Int} {K : Ending → World → Prop} (h : Calls P f args w (fun e w' => ∃ g', e = .returned (.agg #[.bool g', .slice a l c]) ∧ Zz w' g' (.slice a l c) z k ∧ Below w.heap.size w w'))
    (hK : ∀ w', Below w.heap.size w w' → w.heap.size ≤ w'.heap.size → ∀ g, Zz w' g (.slice a l c) z k → K (.returned (.agg #[.bool g, .slice a l c])) w') : Calls P f args w K := by
  refine h.mono ?_
  rintro e w' ⟨g, rfl, hn, hb⟩
  exact hK w' hb hb.size g hn
theorem Calls.kDZ {P : Program} {f : FuncId} {args : Array Value} {w : World} {x y : Int} {k : Nat} {K : Ending → World → Prop} (h : Calls P f args w (DivZ w x y k))
    (hK : ∀ w', Below w.heap.size w w' → w.heap.size ≤ w'.heap.size → ∀ g a l c g2 a2 l2 c2, Zz w' g (.slice a l c) (x / y) k → Zz w' g2 (.slice a2 l2 c2) (if y = 0 then 0 else x % y) k → K (.returned (.tuple #[.agg #[.bool g, .slice a l c], .agg #[.bool g2, .slice a2 l2 c2], .bool (decide (y ≠ 0))])) w') : Calls P f args w K := by
  refine h.mono ?_
  rintro e w' ⟨g, a, l, c, g2, a2, l2, c2, rfl, h1, h2, hb⟩
  exact hK w' hb hb.size g a l c g2 a2 l2 c2 h1 h2
theorem Calls.kQ {P : Program} {f : FuncId} {args : Array Value} {w : World} {q r k : Nat} {K : Ending → World → Prop} (h : Calls P f args w (RetQR w q r k))
    (hK : ∀ w', Below w.heap.size w w' → w.heap.size ≤ w'.heap.size → ∀ a l c a2 l2 c2, Nn w' (.slice a l c) q k → Nn w' (.slice a2 l2 c2) r k → K (.returned (.tuple #[.slice a l c, .slice a2 l2 c2])) w') : Calls P f args w K := by
  refine h.mono ?_
  rintro e w' ⟨a, l, c, a2, l2, c2, rfl, h1, h2, hb⟩
  exact hK w' hb hb.size a l c a2 l2 c2 h1 h2
theorem Calls.kNext {P : Program} {f : FuncId} {args : Array Value} {w : World} {g : Nat} {n : Int} {K : Ending → World → Prop} (h : Calls P f args w (fun e w' => ∃ v : Int, e = .returned (.int .i64 v) ∧ 0 ≤ v ∧ v < n ∧ TapeAt w' g ∧ w.grownBy w' (some g)))
    (hK : ∀ w', w.grownBy w' (some g) → w.heap.size ≤ w'.heap.size → TapeAt w' g → g < w'.heap.size → ∀ v : Int, 0 ≤ v → v < n → K (.returned (.int .i64 v)) w') : Calls P f args w K := by
  refine h.mono ?_
  rintro e w' ⟨v, rfl, h0, h1, ht, hg⟩
  exact hK w' hg hg.size ht ht.lt v h0 h1
theorem Calls.kTN {P : Program} {f : FuncId} {args : Array Value} {w : World} {g d : Nat} {K : Ending → World → Prop} (h : Calls P f args w (fun e w' => ∃ a l c m, e = .returned (.slice a l c) ∧ Nn w' (.slice a l c) m d ∧ TapeAt w' g ∧ w.grownBy w' (some g)))
    (hK : ∀ w', w.grownBy w' (some g) → w.heap.size ≤ w'.heap.size → TapeAt w' g → g < w'.heap.size → ∀ a l c m, Nn w' (.slice a l c) m d → K (.returned (.slice a l c)) w') : Calls P f args w K := by
  refine h.mono ?_
  rintro e w' ⟨a, l, c, m, rfl, h0, ht, hg⟩
  exact hK w' hg hg.size ht ht.lt a l c m h0
theorem Calls.kNew {P : Program} {f : FuncId} {args : Array Value} {w : World} {v : Value} {g : Nat} {K : Ending → World → Prop} (h : Calls P f args w (fun e w' => e = .returned v ∧ TapeAt w' g ∧ Below w.heap.size w w'))
    (hK : ∀ w', Below w.heap.size w w' → w.heap.size ≤ w'.heap.size → TapeAt w' g → g < w'.heap.size → K (.returned v) w') : Calls P f args w K := by
  refine h.mono ?_
  rintro e w' ⟨rfl, ht, hb⟩
  exact hK w' hb hb.size ht ht.lt
/-- What the tape's Int, and the laws' made, give. -/
def TapeZ (w : World) (g k : Nat) (e : Ending) (w' : World) : Prop := ∃ b a l c z, e = .returned (.agg #[.bool b, .slice a l c]) ∧ Zz w' b (.slice a l c) z k ∧ TapeAt w' g ∧ w.grownBy w' (some g)
def TapeI (w : World) (g k : Nat) (e : Ending) (w' : World) : Prop := ∃ b a l c z, e = .returned (.agg #[.bool b, .slice a l c]) ∧ Zi w' b (.slice a l c) z k ∧ TapeAt w' g ∧ w.grownBy w' (some g)
theorem Calls.kTZ {P : Program} {f : FuncId} {args : Array Value} {w : World} {g k : Nat} {K : Ending → World → Prop} (h : Calls P f args w (TapeZ w g k))
    (hK : ∀ w', w.grownBy w' (some g) → w.heap.size ≤ w'.heap.size → TapeAt w' g → g < w'.heap.size → ∀ b a l c z, Zz w' b (.slice a l c) z k → K (.returned (.agg #[.bool b, .slice a l c])) w') : Calls P f args w K := by
  refine h.mono ?_
  rintro e w' ⟨b, a, l, c, z, rfl, h0, ht, hg⟩
  exact hK w' hg hg.size ht ht.lt b a l c z h0
theorem Calls.kTI {P : Program} {f : FuncId} {args : Array Value} {w : World} {g k : Nat} {K : Ending → World → Prop} (h : Calls P f args w (TapeI w g k))
    (hK : ∀ w', w.grownBy w' (some g) → w.heap.size ≤ w'.heap.size → TapeAt w' g → g < w'.heap.size → ∀ b a l c z, Zi w' b (.slice a l c) z k → K (.returned (.agg #[.bool b, .slice a l c])) w') : Calls P f args w K := by
  refine h.mono ?_
  rintro e w' ⟨b, a, l, c, z, rfl, h0, ht, hg⟩
  exact hK w' hg hg.size ht ht.lt b a l c z h0
theorem Zz.tp2 {W W2 : World} {g : Nat} {b : Bool} {s : Value} {z : Int} {k : Nat} (hg : W.grownBy W2 (some g)) (ht : TapeAt W g) (h : Zz W b s z k) : Zz W2 b s z k := by
  exact ⟨h.1, Nn.tp2 hg ht h.2⟩
theorem Zi.tp2 {W W2 : World} {g : Nat} {b : Bool} {s : Value} {z : Int} {k : Nat} (hg : W.grownBy W2 (some g)) (ht : TapeAt W g) (h : Zi W b s z k) : Zi W2 b s z k := by
  obtain ⟨n, h1, h2⟩ := h
  exact ⟨n, Rr.tp2 hg ht h1, h2⟩
/-- An operation whose guard has not been reckoned is passed over. -/
theorem ite_none {c : Option Bool} {b : Bool} {P Q : Prop} [Decidable (c = some b)] (hc : c = none) (h : Q) : if c = some b then P else Q := by
  rw [if_neg (by rw [hc]; exact fun e => nomatch e)]; exact h
theorem cellTp {W W2 : World} {g : Nat} {a : Addr} {v : Value} (hg : W.grownBy W2 (some g)) (hne : a.block ≠ g) (h : W.cell? a = some v) : W2.cell? a = some v :=
  hg.cell h (fun e => hne (Option.some.inj e))
theorem Fz.tp {W W2 : World} {g : Nat} {a : Addr} (hg : W.grownBy W2 (some g)) (hne : a.block ≠ g) (h : Fz W a) : Fz W2 a := by
  obtain ⟨⟨v, hv⟩, hf⟩ := h
  exact ⟨⟨v, cellTp hg hne hv⟩, (hg.frozen_far a (lt_of_cell hv) (fun e => hne (Option.some.inj e))).trans hf⟩
/-! ### worlds in which the tape alone has changed -/
theorem gb_al {w W : World} {g : Nat} {o : Obj} (h : w.grownBy W (some g)) : w.grownBy (W.alloc o) (some g) := gb_below h (blw_one _ _)
theorem gb_dr {w W : World} {g : Nat} (h : w.grownBy W (some g)) : w.grownBy W.drew (some g) := gb_below h (blw_drew (Below.refl _ _))
theorem gb_drN {w W : World} {g j : Nat} (h : w.grownBy W (some g)) : w.grownBy (W.drewN j) (some g) := gb_below h (blw_drewN (Below.refl _ _) j)
theorem gb_keep2 {w W W2 : World} {g : Nat} (hb : Below W.heap.size W W2) (h : w.grownBy W (some g)) : w.grownBy W2 (some g) := gb_below h hb
theorem gb_tp2 {w W W2 : World} {g : Nat} (hg : W.grownBy W2 (some g)) (h : w.grownBy W (some g)) : w.grownBy W2 (some g) := gb_trans h hg
theorem gb_set {w W : World} {g : Nat} {p : Addr} {x : Value} (hp : w.heap.size ≤ p.block) (h : w.grownBy W (some g)) : w.grownBy (W.setCell p x) (some g) :=
  ⟨h.os, h.tape, h.output, by simpa using h.size, fun i hi hne => by rw [Below.heap_setCell _ _ _ _ (by omega)]; exact h.block i hi hne⟩
end Go.Proofs.YtlameeijogdckaaGreat
