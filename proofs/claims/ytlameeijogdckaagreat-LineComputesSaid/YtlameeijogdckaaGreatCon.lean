/-
  Contracts of layers 1 and 2 and of the reference's numbers, in the form that instance search serves.
  Printed by a small program (mkcon.py).
-/
import Derived.Test.YtlameeijogdckaaGreatCls
import Derived.Test.YtlameeijogdckaaGreatNumGcd
import Derived.Test.YtlameeijogdckaaGreatInt3
namespace Go.Proofs.YtlameeijogdckaaGreat
open Go.RowKit

theorem Calls.cE {P : Program} {f : FuncId} {args : Array Value} {w : World} {v : Value} {K : Ending → World → Prop} (h : Calls P f args w (fun e w' => e = .returned v ∧ Below w.heap.size w w'))
    (hK : ∀ w' [Kp1 w w'], K (.returned v) w') : Calls P f args w K := by
  refine h.mono ?_
  rintro e w' ⟨rfl, hb⟩
  exact @hK w' ⟨hb⟩
theorem Calls.cS {P : Program} {f : FuncId} {args : Array Value} {w : World} {v : Value} {K : Ending → World → Prop} (h : Calls P f args w (fun e w' => e = .returned v ∧ w = w')) (hK : K (.returned v) w) : Calls P f args w K := Calls.kS h hK
theorem Calls.cR {P : Program} {f : FuncId} {args : Array Value} {w : World} {n k : Nat} {K : Ending → World → Prop} (h : Calls P f args w (RetR w n k))
    (hK : ∀ w' [Kp1 w w'] a l c [CR w' (.slice a l c) n k], K (.returned (.slice a l c)) w') : Calls P f args w K := by
  refine h.mono ?_
  rintro e w' ⟨a, l, c, rfl, hn, hb⟩
  exact @hK w' ⟨hb⟩ a l c ⟨hn⟩
theorem E.fin {w w' : World} {v v' : Value} [b : Kp w w'] (e : v = v') : (fun e w' => e = Ending.returned v' ∧ Below w.heap.size w w') (.returned v) w' := by
  subst e; exact ⟨rfl, b.out⟩
theorem CN.cast {W : World} {v : Value} {n n' : Nat} {k k' : Nat} (h : CN W v n k) (e : n = n') (b : k ≤ k') : CN W v n' k' := by
  subst e; exact ⟨h.out.mono b⟩
theorem CR.cast {W : World} {v : Value} {n n' : Nat} {k k' : Nat} (h : CR W v n k) (e : n = n') (b : k ≤ k') : CR W v n' k' := by
  subst e; exact ⟨h.out.mono b⟩
theorem CZ.cast {W : World} {v : Value} {n n' : Int} {k k' : Nat} (h : CZ W v n k) (e : n = n') (b : k ≤ k') : CZ W v n' k' := by
  subst e; exact ⟨by obtain ⟨g, a, l, c, e, h'⟩ := h.out; exact ⟨g, a, l, c, e, h'.cast rfl b⟩⟩
theorem CI.cast {W : World} {v : Value} {n n' : Int} {k k' : Nat} (h : CI W v n k) (e : n = n') (b : k ≤ k') : CI W v n' k' := by
  subst e; exact ⟨by obtain ⟨g, a, l, c, e, m, h1, h2⟩ := h.out; exact ⟨g, a, l, c, e, m, h1.mono b, h2⟩⟩
/-- A value of the kind N is returned; nothing that was there has changed. -/
def CNRet (w : World) (x : Nat) (k : Nat) (e : Ending) (w' : World) : Prop := ∃ a l c, e = .returned (.slice a l c) ∧ CN w' (.slice a l c) x k ∧ Below w.heap.size w w'
theorem CNRet.of {w w' : World} {n k : Nat} {e : Ending} (h : RetN w n k e w') : CNRet w n k e w' := by
  obtain ⟨a, l, c, e, h, hb⟩ := h; exact ⟨a, l, c, e, ⟨h⟩, hb⟩
theorem Calls.cN {P : Program} {f : FuncId} {args : Array Value} {w : World} {x : Nat} {k : Nat} {K : Ending → World → Prop} (h : Calls P f args w (CNRet w x k))
    (hK : ∀ w' [Kp1 w w'] (a : Option Addr) (l : Nat) (c : Nat) [CN w' (.slice a l c) x k], K (.returned (.slice a l c)) w') : Calls P f args w K := by
  refine h.mono ?_
  rintro e w' ⟨a, l, c, rfl, hx, hb⟩
  exact @hK w' ⟨hb⟩ a l c hx
theorem CNRet.fin {w w' : World} {a : Option Addr} {l : Nat} {c : Nat} {x x' : Nat} {kx : Nat} {k : Nat} [b : Kp w w'] [hx : CN w' (.slice a l c) x kx] (ex : x = x') (mx : kx ≤ k) : CNRet w x' k (.returned (.slice a l c)) w' :=
  ⟨_, _, _, rfl, hx.cast ex mx, b.out⟩
/-- A value of the kind Z is returned; nothing that was there has changed. -/
def CZRet (w : World) (x : Int) (k : Nat) (e : Ending) (w' : World) : Prop := ∃ g a l c, e = .returned (.agg #[.bool g, .slice a l c]) ∧ CZ w' (.agg #[.bool g, .slice a l c]) x k ∧ Below w.heap.size w w'
theorem CZRet.of {w w' : World} {x : Int} {k : Nat} {e : Ending} (h : RetZ w x k e w') : CZRet w x k e w' := by
  obtain ⟨g, a, l, c, e, h, hb⟩ := h; exact ⟨g, a, l, c, e, ⟨⟨g, a, l, c, rfl, h⟩⟩, hb⟩
theorem Calls.cZ {P : Program} {f : FuncId} {args : Array Value} {w : World} {x : Int} {k : Nat} {K : Ending → World → Prop} (h : Calls P f args w (CZRet w x k))
    (hK : ∀ w' [Kp1 w w'] (g : Bool) (a : Option Addr) (l : Nat) (c : Nat) [CZ w' (.agg #[.bool g, .slice a l c]) x k], K (.returned (.agg #[.bool g, .slice a l c])) w') : Calls P f args w K := by
  refine h.mono ?_
  rintro e w' ⟨g, a, l, c, rfl, hx, hb⟩
  exact @hK w' ⟨hb⟩ g a l c hx
theorem CZRet.fin {w w' : World} {g : Bool} {a : Option Addr} {l : Nat} {c : Nat} {x x' : Int} {kx : Nat} {k : Nat} [b : Kp w w'] [hx : CZ w' (.agg #[.bool g, .slice a l c]) x kx] (ex : x = x') (mx : kx ≤ k) : CZRet w x' k (.returned (.agg #[.bool g, .slice a l c])) w' :=
  ⟨_, _, _, _, rfl, hx.cast ex mx, b.out⟩
theorem zz_of {w : World} {g : Bool} {a : Option Addr} {l c : Nat} {z : Int} {k : Nat} (h : CZ w (.agg #[.bool g, .slice a l c]) z k) : Zz w g (.slice a l c) z k := by
  obtain ⟨g', a', l', c', e, h⟩ := h.out
  simp only [Value.agg.injEq, Array.mk.injEq, List.cons.injEq, Value.bool.injEq, and_true] at e
  obtain ⟨rfl, e⟩ := e
  rw [e]; exact h
theorem zi_of {w : World} {g : Bool} {a : Option Addr} {l c : Nat} {z : Int} {k : Nat} (h : CI w (.agg #[.bool g, .slice a l c]) z k) : Zi w g (.slice a l c) z k := by
  obtain ⟨g', a', l', c', e, h⟩ := h.out
  simp only [Value.agg.injEq, Array.mk.injEq, List.cons.injEq, Value.bool.injEq, and_true] at e
  obtain ⟨rfl, e⟩ := e
  rw [e]; exact h
theorem normC {w : World} {a1 : Option Addr} {l1 : Nat} {c1 : Nat} {m : Nat} {k1 : Nat} [h1 : CR w (.slice a1 l1 c1) m k1] (b : k1 ≤ 900000) :
    Calls Tryz.prog 208 #[.slice a1 l1 c1] w (CNRet w m (k1)) :=
  (normW h1.out b).mono fun _ _ => CNRet.of
theorem addC {w : World} {a1 : Option Addr} {l1 : Nat} {c1 : Nat} {m : Nat} {a2 : Option Addr} {l2 : Nat} {c2 : Nat} {n : Nat} {k1 k2 : Nat} [h1 : CR w (.slice a1 l1 c1) m k1] [h2 : CR w (.slice a2 l2 c2) n k2] (b : k1 ≤ 900000 ∧ k2 ≤ 900000) :
    Calls Tryz.prog 237 #[.slice a1 l1 c1, .slice a2 l2 c2] w (CNRet w (m + n) (max k1 k2 + 1)) :=
  (addW h1.out h2.out b.1 b.2).mono fun _ _ => CNRet.of
theorem mulC {w : World} {a1 : Option Addr} {l1 : Nat} {c1 : Nat} {m : Nat} {a2 : Option Addr} {l2 : Nat} {c2 : Nat} {n : Nat} {k1 k2 : Nat} [h1 : CR w (.slice a1 l1 c1) m k1] [h2 : CR w (.slice a2 l2 c2) n k2] (b : k1 ≤ 900000 ∧ k2 ≤ 900000) :
    Calls Tryz.prog 212 #[.slice a1 l1 c1, .slice a2 l2 c2] w (CNRet w (m * n) (k1 + k2)) :=
  (mulW h1.out h2.out b.1 b.2).mono fun _ _ => CNRet.of
theorem gcdC {w : World} {a1 : Option Addr} {l1 : Nat} {c1 : Nat} {m : Nat} {a2 : Option Addr} {l2 : Nat} {c2 : Nat} {n : Nat} {k1 k2 : Nat} [h1 : CR w (.slice a1 l1 c1) m k1] [h2 : CR w (.slice a2 l2 c2) n k2] (b : k1 ≤ 900000 ∧ k2 ≤ 900000) :
    Calls Tryz.prog 202 #[.slice a1 l1 c1, .slice a2 l2 c2] w (CNRet w (Nat.gcd m n) (max k1 k2)) :=
  (gcdW h1.out h2.out b.1 b.2).mono fun _ _ => CNRet.of
theorem cmpC {w : World} {a1 : Option Addr} {l1 : Nat} {c1 : Nat} {m : Nat} {a2 : Option Addr} {l2 : Nat} {c2 : Nat} {n : Nat} {k1 k2 : Nat} [h1 : CR w (.slice a1 l1 c1) m k1] [h2 : CR w (.slice a2 l2 c2) n k2] :
    Calls Tryz.prog 228 #[.slice a1 l1 c1, .slice a2 l2 c2] w (fun e w' => e = .returned (.int .i64 (cmpN m n)) ∧ Below w.heap.size w w') :=
  cmpW h1.out h2.out
theorem bitsC {w : World} {a1 : Option Addr} {l1 : Nat} {c1 : Nat} {m : Nat} {k1 : Nat} [h1 : CR w (.slice a1 l1 c1) m k1] (b : k1 ≤ 900000) :
    Calls Tryz.prog 201 #[.slice a1 l1 c1] w (fun e w' => e = .returned (.int .i64 ((nbits m : Nat) : Int)) ∧ w = w') :=
  bitsW h1.out b
theorem uintC {w : World} {a1 : Option Addr} {l1 : Nat} {c1 : Nat} {m : Nat} {k1 : Nat} [h1 : CR w (.slice a1 l1 c1) m k1] :
    Calls Tryz.prog 206 #[.slice a1 l1 c1] w (fun e w' => e = .returned (uintV m) ∧ w = w') :=
  uintW h1.out
theorem refNC {w : World} {a1 : Option Addr} {l1 : Nat} {c1 : Nat} {m : Nat} {k1 : Nat} [h1 : CR w (.slice a1 l1 c1) m k1] (b : k1 ≤ 900000) :
    Calls Tryz.prog 103 #[.slice a1 l1 c1] w (CNRet w m (k1)) :=
  (refNW h1.out b).mono fun _ _ => CNRet.of
theorem refToNC {w : World} {a1 : Option Addr} {l1 : Nat} {c1 : Nat} {m : Nat} {k1 : Nat} [h1 : CN w (.slice a1 l1 c1) m k1] (b : k1 ≤ 900000) :
    Calls Tryz.prog 115 #[.slice a1 l1 c1] w (CNRet w m (k1)) :=
  (refToNW h1.out b).mono fun _ _ => CNRet.of
theorem intAddC {w : World} {g1 : Bool} {a1 : Option Addr} {l1 : Nat} {c1 : Nat} {x : Int} {g2 : Bool} {a2 : Option Addr} {l2 : Nat} {c2 : Nat} {y : Int} {k1 k2 : Nat} [h1 : CI w (.agg #[.bool g1, .slice a1 l1 c1]) x k1] [h2 : CI w (.agg #[.bool g2, .slice a2 l2 c2]) y k2] (b : k1 ≤ 900000 ∧ k2 ≤ 900000) :
    Calls Tryz.prog 223 #[.agg #[.bool g1, .slice a1 l1 c1], .agg #[.bool g2, .slice a2 l2 c2]] w (CZRet w (x + y) (max k1 k2 + 1)) :=
  (intAddW (zi_of h1) (zi_of h2) b.1 b.2).mono fun _ _ => CZRet.of
theorem intMulC {w : World} {g1 : Bool} {a1 : Option Addr} {l1 : Nat} {c1 : Nat} {x : Int} {g2 : Bool} {a2 : Option Addr} {l2 : Nat} {c2 : Nat} {y : Int} {k1 k2 : Nat} [h1 : CI w (.agg #[.bool g1, .slice a1 l1 c1]) x k1] [h2 : CI w (.agg #[.bool g2, .slice a2 l2 c2]) y k2] (b : k1 ≤ 900000 ∧ k2 ≤ 900000) :
    Calls Tryz.prog 222 #[.agg #[.bool g1, .slice a1 l1 c1], .agg #[.bool g2, .slice a2 l2 c2]] w (CZRet w (x * y) (k1 + k2)) :=
  (intMulW (zi_of h1) (zi_of h2) b.1 b.2).mono fun _ _ => CZRet.of
theorem intNormC {w : World} {g1 : Bool} {a1 : Option Addr} {l1 : Nat} {c1 : Nat} {x : Int} {k1 : Nat} [h1 : CI w (.agg #[.bool g1, .slice a1 l1 c1]) x k1] (b : k1 ≤ 900000) :
    Calls Tryz.prog 207 #[.agg #[.bool g1, .slice a1 l1 c1]] w (CZRet w x (k1)) :=
  (intNormW (zi_of h1) b).mono fun _ _ => CZRet.of
theorem intNegC {w : World} {g1 : Bool} {a1 : Option Addr} {l1 : Nat} {c1 : Nat} {x : Int} {k1 : Nat} [h1 : CI w (.agg #[.bool g1, .slice a1 l1 c1]) x k1] (b : k1 ≤ 900000) :
    Calls Tryz.prog 218 #[.agg #[.bool g1, .slice a1 l1 c1]] w (CZRet w (-x) (k1)) :=
  (intNegW (zi_of h1) b).mono fun _ _ => CZRet.of
theorem intSignC {w : World} {g1 : Bool} {a1 : Option Addr} {l1 : Nat} {c1 : Nat} {x : Int} {k1 : Nat} [h1 : CI w (.agg #[.bool g1, .slice a1 l1 c1]) x k1] (b : k1 ≤ 900000) :
    Calls Tryz.prog 203 #[.agg #[.bool g1, .slice a1 l1 c1]] w (fun e w' => e = .returned (.int .i64 (isgn x)) ∧ Below w.heap.size w w') :=
  intSignW (zi_of h1) b
theorem int64C {w : World} {g1 : Bool} {a1 : Option Addr} {l1 : Nat} {c1 : Nat} {x : Int} {k1 : Nat} [h1 : CI w (.agg #[.bool g1, .slice a1 l1 c1]) x k1] :
    Calls Tryz.prog 205 #[.agg #[.bool g1, .slice a1 l1 c1]] w (fun e w' => e = .returned (int64V x) ∧ Below w.heap.size w w') :=
  int64W (zi_of h1)
theorem numSumC {w : World} {a1 : Option Addr} {l1 : Nat} {c1 : Nat} {m : Nat} {a2 : Option Addr} {l2 : Nat} {c2 : Nat} {n : Nat} {k1 k2 : Nat} [h1 : CN w (.slice a1 l1 c1) m k1] [h2 : CN w (.slice a2 l2 c2) n k2] (b : k1 ≤ 900000 ∧ k2 ≤ 900000) :
    Calls Tryz.prog 219 #[.slice a1 l1 c1, .slice a2 l2 c2] w (CNRet w (m + n) (max k1 k2 + 1)) :=
  (numSumW h1.out h2.out b.1 b.2).mono fun _ _ => CNRet.of
theorem numProductC {w : World} {a1 : Option Addr} {l1 : Nat} {c1 : Nat} {m : Nat} {a2 : Option Addr} {l2 : Nat} {c2 : Nat} {n : Nat} {k1 k2 : Nat} [h1 : CN w (.slice a1 l1 c1) m k1] [h2 : CN w (.slice a2 l2 c2) n k2] (b : k1 ≤ 900000 ∧ k2 ≤ 900000) :
    Calls Tryz.prog 108 #[.slice a1 l1 c1, .slice a2 l2 c2] w (CNRet w (m * n) (k1 + k2)) :=
  (numProductW h1.out h2.out b.1 b.2).mono fun _ _ => CNRet.of
theorem numSignC {w : World} {g1 : Bool} {a1 : Option Addr} {l1 : Nat} {c1 : Nat} {x : Int} {k1 : Nat} [h1 : CZ w (.agg #[.bool g1, .slice a1 l1 c1]) x k1] :
    Calls Tryz.prog 120 #[.agg #[.bool g1, .slice a1 l1 c1]] w (fun e w' => e = .returned (.int .i64 (isgn x)) ∧ Below w.heap.size w w') :=
  numSignW (zz_of h1)
theorem numMinusC {w : World} {g1 : Bool} {a1 : Option Addr} {l1 : Nat} {c1 : Nat} {x : Int} {k1 : Nat} [h1 : CZ w (.agg #[.bool g1, .slice a1 l1 c1]) x k1] :
    Calls Tryz.prog 163 #[.agg #[.bool g1, .slice a1 l1 c1]] w (CZRet w (-x) (k1)) :=
  (numMinusW (zz_of h1)).mono fun _ _ => CZRet.of
theorem numMulC {w : World} {g1 : Bool} {a1 : Option Addr} {l1 : Nat} {c1 : Nat} {x : Int} {g2 : Bool} {a2 : Option Addr} {l2 : Nat} {c2 : Nat} {y : Int} {k1 k2 : Nat} [h1 : CZ w (.agg #[.bool g1, .slice a1 l1 c1]) x k1] [h2 : CZ w (.agg #[.bool g2, .slice a2 l2 c2]) y k2] (b : k1 ≤ 900000 ∧ k2 ≤ 900000) :
    Calls Tryz.prog 130 #[.agg #[.bool g1, .slice a1 l1 c1], .agg #[.bool g2, .slice a2 l2 c2]] w (CZRet w (x * y) (k1 + k2)) :=
  (numMulW (zz_of h1) (zz_of h2) b.1 b.2).mono fun _ _ => CZRet.of
theorem numAddC {w : World} {g1 : Bool} {a1 : Option Addr} {l1 : Nat} {c1 : Nat} {x : Int} {g2 : Bool} {a2 : Option Addr} {l2 : Nat} {c2 : Nat} {y : Int} {k1 k2 : Nat} [h1 : CZ w (.agg #[.bool g1, .slice a1 l1 c1]) x k1] [h2 : CZ w (.agg #[.bool g2, .slice a2 l2 c2]) y k2] (b : k1 ≤ 900000 ∧ k2 ≤ 900000) :
    Calls Tryz.prog 186 #[.agg #[.bool g1, .slice a1 l1 c1], .agg #[.bool g2, .slice a2 l2 c2]] w (CZRet w (x + y) (max k1 k2 + 1)) :=
  (numAddW (zz_of h1) (zz_of h2) b.1 b.2).mono fun _ _ => CZRet.of
theorem numCompareC {w : World} {g1 : Bool} {a1 : Option Addr} {l1 : Nat} {c1 : Nat} {x : Int} {g2 : Bool} {a2 : Option Addr} {l2 : Nat} {c2 : Nat} {y : Int} {k1 k2 : Nat} [h1 : CZ w (.agg #[.bool g1, .slice a1 l1 c1]) x k1] [h2 : CZ w (.agg #[.bool g2, .slice a2 l2 c2]) y k2] (b : k1 ≤ 900000 ∧ k2 ≤ 900000) :
    Calls Tryz.prog 167 #[.agg #[.bool g1, .slice a1 l1 c1], .agg #[.bool g2, .slice a2 l2 c2]] w (fun e w' => e = .returned (.int .i64 (icmp x y)) ∧ Below w.heap.size w w') :=
  numCompareW (zz_of h1) (zz_of h2) b.1 b.2
theorem refIC {w : World} {g1 : Bool} {a1 : Option Addr} {l1 : Nat} {c1 : Nat} {x : Int} {k1 : Nat} [h1 : CI w (.agg #[.bool g1, .slice a1 l1 c1]) x k1] (b : k1 ≤ 900000) :
    Calls Tryz.prog 27 #[.agg #[.bool g1, .slice a1 l1 c1]] w (CZRet w x (k1)) :=
  (refIW (zi_of h1) b).mono fun _ _ => CZRet.of
theorem toIC {w : World} {g1 : Bool} {a1 : Option Addr} {l1 : Nat} {c1 : Nat} {x : Int} {k1 : Nat} [h1 : CZ w (.agg #[.bool g1, .slice a1 l1 c1]) x k1] (b : k1 ≤ 900000) :
    Calls Tryz.prog 114 #[.agg #[.bool g1, .slice a1 l1 c1]] w (CZRet w x (k1)) :=
  (toIW (zz_of h1) b).mono fun _ _ => CZRet.of
theorem commonC {w : World} {a1 : Option Addr} {l1 : Nat} {c1 : Nat} {m : Nat} {a2 : Option Addr} {l2 : Nat} {c2 : Nat} {n : Nat} {k1 k2 : Nat} [h1 : CN w (.slice a1 l1 c1) m k1] [h2 : CN w (.slice a2 l2 c2) n k2] (b : k1 ≤ 200000 ∧ k2 ≤ 200000) :
    Calls Tryz.prog 100 #[.slice a1 l1 c1, .slice a2 l2 c2] w (CNRet w (Nat.gcd m n) (max k1 k2)) :=
  (commonW h1.out h2.out b.1 b.2).mono fun _ _ => CNRet.of
theorem numCmpC {w : World} {a1 : Option Addr} {l1 : Nat} {c1 : Nat} {m : Nat} {a2 : Option Addr} {l2 : Nat} {c2 : Nat} {n : Nat} {k1 k2 : Nat} [h1 : CN w (.slice a1 l1 c1) m k1] [h2 : CN w (.slice a2 l2 c2) n k2] :
    Calls Tryz.prog 178 #[.slice a1 l1 c1, .slice a2 l2 c2] w (fun e w' => e = .returned (.int .i64 (cmpN m n)) ∧ Below w.heap.size w w') :=
  numCmpW h1.out h2.out
theorem fromUintC {w : World} {x : Int} (b : 0 ≤ x ∧ x < 18446744073709551616) : Calls Tryz.prog 209 #[.int .u64 x] w (CNRet w x.toNat 2) := by
  obtain ⟨n, rfl⟩ : ∃ n : Nat, x = n := ⟨x.toNat, by omega⟩
  exact (fromUintW (x := n) (by omega)).mono fun _ _ => CNRet.of
theorem wordC {w : World} {x : Int} (b : 0 ≤ x ∧ x < 18446744073709551616) : Calls Tryz.prog 118 #[.int .u64 x] w (CNRet w x.natAbs 2) :=
  (numWordI b.1 b.2).mono fun _ _ => CNRet.of
theorem oneC {w : World} : Calls Tryz.prog 187 #[] w (CNRet w 1 1) := numOneW.mono fun _ _ => CNRet.of
theorem fromIntC {w : World} {x : Int} (b : -9223372036854775808 ≤ x ∧ x < 9223372036854775808) : Calls Tryz.prog 173 #[.int .i64 x] w (CZRet w x 2) :=
  (fromIntW b.1 b.2).mono fun _ _ => CZRet.of
theorem numIntC {w : World} {x : Int} (b : -9223372036854775808 ≤ x ∧ x < 9223372036854775808) : Calls Tryz.prog 117 #[.int .i64 x] w (CZRet w x 2) :=
  (numIntW b.1 b.2).mono fun _ _ => CZRet.of
theorem numLessC {w : World} {a1 a2 : Option Addr} {l1 c1 l2 c2 m n k1 k2 : Nat} [h1 : CN w (.slice a1 l1 c1) m k1] [h2 : CN w (.slice a2 l2 c2) n k2] (b : k1 ≤ 900000) (hle : n ≤ m) :
    Calls Tryz.prog 216 #[.slice a1 l1 c1, .slice a2 l2 c2] w (CNRet w (m - n) k1) := (numLessW h1.out h2.out b hle).mono fun _ _ => CNRet.of
/-- Make, signed: the sign is struck where the number is 0. -/
def SgRet (w : World) (a : Option Addr) (l c : Nat) (z : Int) (k : Nat) (e : Ending) (w' : World) : Prop := ∃ g, e = .returned (.agg #[.bool g, .slice a l c]) ∧ CZ w' (.agg #[.bool g, .slice a l c]) z k ∧ Below w.heap.size w w'
theorem makeC {w : World} {g : Bool} {a : Option Addr} {l c n k : Nat} [h : CN w (.slice a l c) n k] : Calls Tryz.prog 102 #[.bool g, .slice a l c] w (SgRet w a l c (sgn g n) k) := by
  refine (makeW h.out).mono ?_
  rintro e w' ⟨g', rfl, hz, hb⟩
  exact ⟨g', rfl, ⟨⟨_, _, _, _, rfl, hz⟩⟩, hb⟩
theorem signedC {w : World} {g : Bool} {a : Option Addr} {l c n k : Nat} [h : CN w (.slice a l c) n k] : Calls Tryz.prog 236 #[.bool g, .slice a l c] w (SgRet w a l c (sgn g n) k) := by
  refine (signedW h.out).mono ?_
  rintro e w' ⟨g', rfl, hz, hb⟩
  exact ⟨g', rfl, ⟨⟨_, _, _, _, rfl, hz⟩⟩, hb⟩
theorem Calls.cSg {P : Program} {f : FuncId} {args : Array Value} {w : World} {a : Option Addr} {l c k : Nat} {z : Int} {K : Ending → World → Prop} (h : Calls P f args w (SgRet w a l c z k))
    (hK : ∀ w' [Kp1 w w'] g [CZ w' (.agg #[.bool g, .slice a l c]) z k], K (.returned (.agg #[.bool g, .slice a l c])) w') : Calls P f args w K := by
  refine h.mono ?_
  rintro e w' ⟨g, rfl, hn, hb⟩
  exact @hK w' ⟨hb⟩ g hn
/-- Two naturals. -/
def QRRet (w : World) (q r k : Nat) (e : Ending) (w' : World) : Prop := ∃ a l c a2 l2 c2, e = .returned (.tuple #[.slice a l c, .slice a2 l2 c2]) ∧ CN w' (.slice a l c) q k ∧ CN w' (.slice a2 l2 c2) r k ∧ Below w.heap.size w w'
theorem divideC {w : World} {a1 a2 : Option Addr} {l1 c1 l2 c2 m n k1 k2 : Nat} [h1 : CN w (.slice a1 l1 c1) m k1] [h2 : CN w (.slice a2 l2 c2) n k2] (b : k1 ≤ 200000 ∧ k2 ≤ 200000) (hn : n ≠ 0) :
    Calls Tryz.prog 101 #[.slice a1 l1 c1, .slice a2 l2 c2] w (QRRet w (m / n) (m % n) (k1 + 2)) := by
  refine (divideW h1.out h2.out hn b.1).mono ?_
  rintro e w' ⟨a, l, c, a2, l2, c2, rfl, q, r, hb⟩
  exact ⟨a, l, c, a2, l2, c2, rfl, ⟨q.mono (by omega)⟩, ⟨r.mono (by omega)⟩, hb⟩
theorem Calls.cQR {P : Program} {f : FuncId} {args : Array Value} {w : World} {q r k : Nat} {K : Ending → World → Prop} (h : Calls P f args w (QRRet w q r k))
    (hK : ∀ w' [Kp1 w w'] a l c a2 l2 c2 [CN w' (.slice a l c) q k] [CN w' (.slice a2 l2 c2) r k], K (.returned (.tuple #[.slice a l c, .slice a2 l2 c2])) w') : Calls P f args w K := by
  refine h.mono ?_
  rintro e w' ⟨a, l, c, a2, l2, c2, rfl, h1, h2, hb⟩
  exact @hK w' ⟨hb⟩ a l c a2 l2 c2 h1 h2
def DMRet (w : World) (q r k : Nat) (ok : Bool) (e : Ending) (w' : World) : Prop := ∃ a l c a2 l2 c2, e = .returned (.tuple #[.slice a l c, .slice a2 l2 c2, .bool ok]) ∧ CN w' (.slice a l c) q k ∧ CN w' (.slice a2 l2 c2) r k ∧ Below w.heap.size w w'
theorem divmodC {w : World} {a1 a2 : Option Addr} {l1 c1 l2 c2 m n k1 k2 : Nat} [h1 : CR w (.slice a1 l1 c1) m k1] [h2 : CR w (.slice a2 l2 c2) n k2] (b : k1 ≤ 900000) :
    Calls Tryz.prog 204 #[.slice a1 l1 c1, .slice a2 l2 c2] w (DMRet w (m / n) (if n = 0 then 0 else m % n) k1 (decide (n ≠ 0))) := by
  refine (divmodW h1.out h2.out b).mono ?_
  rintro e w' ⟨a, l, c, a2, l2, c2, rfl, q, r, hb⟩
  exact ⟨a, l, c, a2, l2, c2, rfl, ⟨q⟩, ⟨r⟩, hb⟩
theorem Calls.cDM {P : Program} {f : FuncId} {args : Array Value} {w : World} {q r k : Nat} {ok : Bool} {K : Ending → World → Prop} (h : Calls P f args w (DMRet w q r k ok))
    (hK : ∀ w' [Kp1 w w'] a l c a2 l2 c2 [CN w' (.slice a l c) q k] [CN w' (.slice a2 l2 c2) r k], K (.returned (.tuple #[.slice a l c, .slice a2 l2 c2, .bool ok])) w') : Calls P f args w K := by
  refine h.mono ?_
  rintro e w' ⟨a, l, c, a2, l2, c2, rfl, h1, h2, hb⟩
  exact @hK w' ⟨hb⟩ a l c a2 l2 c2 h1 h2
/-- Division of integers. -/
def IDRet (w : World) (x y : Int) (k : Nat) (e : Ending) (w' : World) : Prop := ∃ g a l c g2 a2 l2 c2, e = .returned (.tuple #[.agg #[.bool g, .slice a l c], .agg #[.bool g2, .slice a2 l2 c2], .bool (decide (y ≠ 0))]) ∧ CZ w' (.agg #[.bool g, .slice a l c]) (x / y) k ∧ CZ w' (.agg #[.bool g2, .slice a2 l2 c2]) (if y = 0 then 0 else x % y) k ∧ Below w.heap.size w w'
theorem Calls.cID {P : Program} {f : FuncId} {args : Array Value} {w : World} {x y : Int} {k : Nat} {K : Ending → World → Prop} (h : Calls P f args w (IDRet w x y k))
    (hK : ∀ w' [Kp1 w w'] g a l c g2 a2 l2 c2 [CZ w' (.agg #[.bool g, .slice a l c]) (x / y) k] [CZ w' (.agg #[.bool g2, .slice a2 l2 c2]) (if y = 0 then 0 else x % y) k], K (.returned (.tuple #[.agg #[.bool g, .slice a l c], .agg #[.bool g2, .slice a2 l2 c2], .bool (decide (y ≠ 0))])) w') : Calls P f args w K := by
  refine h.mono ?_
  rintro e w' ⟨g, a, l, c, g2, a2, l2, c2, rfl, h1, h2, hb⟩
  exact @hK w' ⟨hb⟩ g a l c g2 a2 l2 c2 h1 h2
theorem sameNC {w : World} {a1 a2 : Option Addr} {l1 c1 l2 c2 m n k1 k2 : Nat} [h1 : CN w (.slice a1 l1 c1) m k1] [h2 : CN w (.slice a2 l2 c2) n k2] (e : m = n) :
    Calls Tryz.prog 131 #[.slice a1 l1 c1, .slice a2 l2 c2] w fun e w' => e = .returned (.bool true) ∧ Below w.heap.size w w' := sameNT h1.out h2.out e
theorem sameIC {w : World} {g1 g2 : Bool} {a1 a2 : Option Addr} {l1 c1 l2 c2 : Nat} {x y : Int} {k1 k2 : Nat} [h1 : CZ w (.agg #[.bool g1, .slice a1 l1 c1]) x k1] [h2 : CZ w (.agg #[.bool g2, .slice a2 l2 c2]) y k2] (e : x = y) :
    Calls Tryz.prog 104 #[.agg #[.bool g1, .slice a1 l1 c1], .agg #[.bool g2, .slice a2 l2 c2]] w fun e w' => e = .returned (.bool true) ∧ Below w.heap.size w w' := sameIW (zz_of h1) (zz_of h2) e
end Go.Proofs.YtlameeijogdckaaGreat
