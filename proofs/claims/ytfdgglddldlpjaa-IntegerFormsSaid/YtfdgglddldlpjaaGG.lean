/-
  Texts of this claim, joined: Con0, Tail, Con, Fmt.
-/
import Derived.Test.YtfdgglddldlpjaaGF
import Derived.Test.YtfdgglddldlpjaaGC
/- Contracts of layers 1 and 2 and of the reference's numbers, in the form that instance search serves. printed by a small program (mkcon.py). -/
namespace Go.Proofs.Ytfdgglddldlpjaa
open Go.RowKit

theorem Calls.cE {P : Program} {f : FuncId} {args : Array Value} {w : World} {v : Value} {K : Ending → World → Prop} (h : Calls P f args w (fun e w' => e = .returned v ∧ Below w.heap.size w w'))
    (hK : ∀ w' [Kp1 w w'], K (.returned v) w') : Calls P f args w K := by
  refine h.mono ?_
  rintro e w' ⟨rfl, hb⟩
  exact @hK w' ⟨hb⟩
theorem Calls.cS {P : Program} {f : FuncId} {args : Array Value} {w : World} {v : Value} {K : Ending → World → Prop} (h : Calls P f args w (fun e w' => e = .returned v ∧ w = w')) (hK : K (.returned v) w) : Calls P f args w K := Calls.kS h hK
theorem Calls.cR {P : Program} {f : FuncId} {args : Array Value} {w : World} {n k : Nat} {K : Ending → World → Prop} (h : Calls P f args w (RetR w n k))
    (hK : ∀ w' [Kp1 w w'] a l c [CR w' (.slice a l c) n k], K (.returned (.slice a l c)) w') : Calls P f args w K := by
  refine h.mono ?_
  rintro e w' ⟨a, l, c, rfl, hn, hb⟩
  exact @hK w' ⟨hb⟩ a l c ⟨hn⟩
theorem E.fin {w w' : World} {v v' : Value} [b : Kp w w'] (e : v = v') : (fun e w' => e = Ending.returned v' ∧ Below w.heap.size w w') (.returned v) w' := by
  subst e; exact ⟨rfl, b.out⟩
theorem CN.cast {W : World} {v : Value} {n n' : Nat} {k k' : Nat} (h : CN W v n k) (e : n = n') (b : k ≤ k') : CN W v n' k' := by
  subst e; exact ⟨h.out.mono b⟩
theorem CR.cast {W : World} {v : Value} {n n' : Nat} {k k' : Nat} (h : CR W v n k) (e : n = n') (b : k ≤ k') : CR W v n' k' := by
  subst e; exact ⟨h.out.mono b⟩
theorem CZ.cast {W : World} {v : Value} {n n' : Int} {k k' : Nat} (h : CZ W v n k) (e : n = n') (b : k ≤ k') : CZ W v n' k' := by
  subst e; exact ⟨by obtain ⟨g, a, l, c, e, h'⟩ := h.out; exact ⟨g, a, l, c, e, h'.cast rfl b⟩⟩
theorem CI.cast {W : World} {v : Value} {n n' : Int} {k k' : Nat} (h : CI W v n k) (e : n = n') (b : k ≤ k') : CI W v n' k' := by
  subst e; exact ⟨by obtain ⟨g, a, l, c, e, m, h1, h2⟩ := h.out; exact ⟨g, a, l, c, e, m, h1.mono b, h2⟩⟩
/-- A value of the kind N is returned; nothing that was there has changed. -/
def CNRet (w : World) (x : Nat) (k : Nat) (e : Ending) (w' : World) : Prop := ∃ a l c, e = .returned (.slice a l c) ∧ CN w' (.slice a l c) x k ∧ Below w.heap.size w w'
theorem CNRet.of {w w' : World} {n k : Nat} {e : Ending} (h : RetN w n k e w') : CNRet w n k e w' := by
  obtain ⟨a, l, c, e, h, hb⟩ := h; exact ⟨a, l, c, e, ⟨h⟩, hb⟩
theorem Calls.cN {P : Program} {f : FuncId} {args : Array Value} {w : World} {x : Nat} {k : Nat} {K : Ending → World → Prop} (h : Calls P f args w (CNRet w x k))
    (hK : ∀ w' [Kp1 w w'] (a : Option Addr) (l : Nat) (c : Nat) [CN w' (.slice a l c) x k], K (.returned (.slice a l c)) w') : Calls P f args w K := by
  refine h.mono ?_
  rintro e w' ⟨a, l, c, rfl, hx, hb⟩
  exact @hK w' ⟨hb⟩ a l c hx
theorem CNRet.fin {w w' : World} {a : Option Addr} {l : Nat} {c : Nat} {x x' : Nat} {kx : Nat} {k : Nat} [b : Kp w w'] [hx : CN w' (.slice a l c) x kx] (ex : x = x') (mx : kx ≤ k) : CNRet w x' k (.returned (.slice a l c)) w' :=
  ⟨_, _, _, rfl, hx.cast ex mx, b.out⟩
/-- A value of the kind Z is returned; nothing that was there has changed. -/
def CZRet (w : World) (x : Int) (k : Nat) (e : Ending) (w' : World) : Prop := ∃ g a l c, e = .returned (.agg #[.bool g, .slice a l c]) ∧ CZ w' (.agg #[.bool g, .slice a l c]) x k ∧ Below w.heap.size w w'
theorem CZRet.of {w w' : World} {x : Int} {k : Nat} {e : Ending} (h : RetZ w x k e w') : CZRet w x k e w' := by
  obtain ⟨g, a, l, c, e, h, hb⟩ := h; exact ⟨g, a, l, c, e, ⟨⟨g, a, l, c, rfl, h⟩⟩, hb⟩
theorem Calls.cZ {P : Program} {f : FuncId} {args : Array Value} {w : World} {x : Int} {k : Nat} {K : Ending → World → Prop} (h : Calls P f args w (CZRet w x k))
    (hK : ∀ w' [Kp1 w w'] (g : Bool) (a : Option Addr) (l : Nat) (c : Nat) [CZ w' (.agg #[.bool g, .slice a l c]) x k], K (.returned (.agg #[.bool g, .slice a l c])) w') : Calls P f args w K := by
  refine h.mono ?_
  rintro e w' ⟨g, a, l, c, rfl, hx, hb⟩
  exact @hK w' ⟨hb⟩ g a l c hx
theorem CZRet.fin {w w' : World} {g : Bool} {a : Option Addr} {l : Nat} {c : Nat} {x x' : Int} {kx : Nat} {k : Nat} [b : Kp w w'] [hx : CZ w' (.agg #[.bool g, .slice a l c]) x kx] (ex : x = x') (mx : kx ≤ k) : CZRet w x' k (.returned (.agg #[.bool g, .slice a l c])) w' :=
  ⟨_, _, _, _, rfl, hx.cast ex mx, b.out⟩
theorem zz_of {w : World} {g : Bool} {a : Option Addr} {l c : Nat} {z : Int} {k : Nat} (h : CZ w (.agg #[.bool g, .slice a l c]) z k) : Zz w g (.slice a l c) z k := by
  obtain ⟨g', a', l', c', e, h⟩ := h.out
  simp only [Value.agg.injEq, Array.mk.injEq, List.cons.injEq, Value.bool.injEq, and_true] at e
  obtain ⟨rfl, e⟩ := e
  rw [e]; exact h
theorem zi_of {w : World} {g : Bool} {a : Option Addr} {l c : Nat} {z : Int} {k : Nat} (h : CI w (.agg #[.bool g, .slice a l c]) z k) : Zi w g (.slice a l c) z k := by
  obtain ⟨g', a', l', c', e, h⟩ := h.out
  simp only [Value.agg.injEq, Array.mk.injEq, List.cons.injEq, Value.bool.injEq, and_true] at e
  obtain ⟨rfl, e⟩ := e
  rw [e]; exact h
theorem normC {w : World} {a1 : Option Addr} {l1 c1 m k1 : Nat} [h1 : CR w (.slice a1 l1 c1) m k1] (b : k1 ≤ 900000) :
    Calls Try.prog 29 #[.slice a1 l1 c1] w (CNRet w m (k1)) :=
  (normW h1.out b).mono fun _ _ => CNRet.of
theorem addC {w : World} {a1 a2 : Option Addr} {l1 c1 m l2 c2 n k1 k2 : Nat} [h1 : CR w (.slice a1 l1 c1) m k1] [h2 : CR w (.slice a2 l2 c2) n k2] (b : k1 ≤ 900000 ∧ k2 ≤ 900000) :
    Calls Try.prog 35 #[.slice a1 l1 c1, .slice a2 l2 c2] w (CNRet w (m + n) (max k1 k2 + 1)) :=
  (addW h1.out h2.out b.1 b.2).mono fun _ _ => CNRet.of
theorem cmpC {w : World} {a1 a2 : Option Addr} {l1 c1 m l2 c2 n k1 k2 : Nat} [h1 : CR w (.slice a1 l1 c1) m k1] [h2 : CR w (.slice a2 l2 c2) n k2] :
    Calls Try.prog 33 #[.slice a1 l1 c1, .slice a2 l2 c2] w (fun e w' => e = .returned (.int .i64 (cmpN m n)) ∧ Below w.heap.size w w') :=
  cmpW h1.out h2.out
theorem bitsC {w : World} {a1 : Option Addr} {l1 c1 m k1 : Nat} [h1 : CR w (.slice a1 l1 c1) m k1] (b : k1 ≤ 900000) :
    Calls Try.prog 32 #[.slice a1 l1 c1] w (fun e w' => e = .returned (.int .i64 ((nbits m : Nat) : Int)) ∧ w = w') :=
  bitsW h1.out b
theorem uintC {w : World} {a1 : Option Addr} {l1 c1 m k1 : Nat} [h1 : CR w (.slice a1 l1 c1) m k1] :
    Calls Try.prog 22 #[.slice a1 l1 c1] w (fun e w' => e = .returned (uintV m) ∧ w = w') :=
  uintW h1.out
theorem refNC {w : World} {a1 : Option Addr} {l1 c1 m k1 : Nat} [h1 : CR w (.slice a1 l1 c1) m k1] (b : k1 ≤ 900000) :
    Calls Try.prog 21 #[.slice a1 l1 c1] w (CNRet w m (k1)) :=
  (refNW h1.out b).mono fun _ _ => CNRet.of
theorem refToNC {w : World} {a1 : Option Addr} {l1 c1 m k1 : Nat} [h1 : CN w (.slice a1 l1 c1) m k1] (b : k1 ≤ 900000) :
    Calls Try.prog 45 #[.slice a1 l1 c1] w (CNRet w m (k1)) :=
  (refToNW h1.out b).mono fun _ _ => CNRet.of
theorem numSumC {w : World} {a1 a2 : Option Addr} {l1 c1 m l2 c2 n k1 k2 : Nat} [h1 : CN w (.slice a1 l1 c1) m k1] [h2 : CN w (.slice a2 l2 c2) n k2] (b : k1 ≤ 900000 ∧ k2 ≤ 900000) :
    Calls Try.prog 41 #[.slice a1 l1 c1, .slice a2 l2 c2] w (CNRet w (m + n) (max k1 k2 + 1)) :=
  (numSumW h1.out h2.out b.1 b.2).mono fun _ _ => CNRet.of
theorem numCmpC {w : World} {a1 a2 : Option Addr} {l1 c1 m l2 c2 n k1 k2 : Nat} [h1 : CN w (.slice a1 l1 c1) m k1] [h2 : CN w (.slice a2 l2 c2) n k2] :
    Calls Try.prog 42 #[.slice a1 l1 c1, .slice a2 l2 c2] w (fun e w' => e = .returned (.int .i64 (cmpN m n)) ∧ Below w.heap.size w w') :=
  numCmpW h1.out h2.out
theorem fromUintC {w : World} {x : Int} (b : 0 ≤ x ∧ x < 18446744073709551616) : Calls Try.prog 23 #[.int .u64 x] w (CNRet w x.toNat 2) := by
  obtain ⟨n, rfl⟩ : ∃ n : Nat, x = n := ⟨x.toNat, by omega⟩
  exact (fromUintW (x := n) (by omega)).mono fun _ _ => CNRet.of
theorem wordC {w : World} {x : Int} (b : 0 ≤ x ∧ x < 18446744073709551616) : Calls Try.prog 26 #[.int .u64 x] w (CNRet w x.natAbs 2) :=
  (numWordI b.1 b.2).mono fun _ _ => CNRet.of
theorem numLessC {w : World} {a1 a2 : Option Addr} {l1 c1 l2 c2 m n k1 k2 : Nat} [h1 : CN w (.slice a1 l1 c1) m k1] [h2 : CN w (.slice a2 l2 c2) n k2] (b : k1 ≤ 900000) (hle : n ≤ m) :
    Calls Try.prog 43 #[.slice a1 l1 c1, .slice a2 l2 c2] w (CNRet w (m - n) k1) := (numLessW h1.out h2.out b hle).mono fun _ _ => CNRet.of
/-- Make, signed: the sign is struck where the number is 0. -/
def SgRet (w : World) (a : Option Addr) (l c : Nat) (z : Int) (k : Nat) (e : Ending) (w' : World) : Prop := ∃ g, e = .returned (.agg #[.bool g, .slice a l c]) ∧ CZ w' (.agg #[.bool g, .slice a l c]) z k ∧ Below w.heap.size w w'
theorem Calls.cSg {P : Program} {f : FuncId} {args : Array Value} {w : World} {a : Option Addr} {l c k : Nat} {z : Int} {K : Ending → World → Prop} (h : Calls P f args w (SgRet w a l c z k))
    (hK : ∀ w' [Kp1 w w'] g [CZ w' (.agg #[.bool g, .slice a l c]) z k], K (.returned (.agg #[.bool g, .slice a l c])) w') : Calls P f args w K := by
  refine h.mono ?_
  rintro e w' ⟨g, rfl, hn, hb⟩
  exact @hK w' ⟨hb⟩ g hn
/-- Two naturals. -/
def QRRet (w : World) (q r k : Nat) (e : Ending) (w' : World) : Prop := ∃ a l c a2 l2 c2, e = .returned (.tuple #[.slice a l c, .slice a2 l2 c2]) ∧ CN w' (.slice a l c) q k ∧ CN w' (.slice a2 l2 c2) r k ∧ Below w.heap.size w w'
theorem Calls.cQR {P : Program} {f : FuncId} {args : Array Value} {w : World} {q r k : Nat} {K : Ending → World → Prop} (h : Calls P f args w (QRRet w q r k))
    (hK : ∀ w' [Kp1 w w'] a l c a2 l2 c2 [CN w' (.slice a l c) q k] [CN w' (.slice a2 l2 c2) r k], K (.returned (.tuple #[.slice a l c, .slice a2 l2 c2])) w') : Calls P f args w K := by
  refine h.mono ?_
  rintro e w' ⟨a, l, c, a2, l2, c2, rfl, h1, h2, hb⟩
  exact @hK w' ⟨hb⟩ a l c a2 l2 c2 h1 h2
def DMRet (w : World) (q r k : Nat) (ok : Bool) (e : Ending) (w' : World) : Prop := ∃ a l c a2 l2 c2, e = .returned (.tuple #[.slice a l c, .slice a2 l2 c2, .bool ok]) ∧ CN w' (.slice a l c) q k ∧ CN w' (.slice a2 l2 c2) r k ∧ Below w.heap.size w w'
theorem divmodC {w : World} {a1 a2 : Option Addr} {l1 c1 l2 c2 m n k1 k2 : Nat} [h1 : CR w (.slice a1 l1 c1) m k1] [h2 : CR w (.slice a2 l2 c2) n k2] (b : k1 ≤ 900000) :
    Calls Try.prog 34 #[.slice a1 l1 c1, .slice a2 l2 c2] w (DMRet w (m / n) (if n = 0 then 0 else m % n) k1 (decide (n ≠ 0))) := by
  refine (divmodW h1.out h2.out b).mono ?_
  rintro e w' ⟨a, l, c, a2, l2, c2, rfl, q, r, hb⟩
  exact ⟨a, l, c, a2, l2, c2, rfl, ⟨q⟩, ⟨r⟩, hb⟩
theorem Calls.cDM {P : Program} {f : FuncId} {args : Array Value} {w : World} {q r k : Nat} {ok : Bool} {K : Ending → World → Prop} (h : Calls P f args w (DMRet w q r k ok))
    (hK : ∀ w' [Kp1 w w'] a l c a2 l2 c2 [CN w' (.slice a l c) q k] [CN w' (.slice a2 l2 c2) r k], K (.returned (.tuple #[.slice a l c, .slice a2 l2 c2, .bool ok])) w') : Calls P f args w K := by
  refine h.mono ?_
  rintro e w' ⟨a, l, c, a2, l2, c2, rfl, h1, h2, hb⟩
  exact @hK w' ⟨hb⟩ a l c a2 l2 c2 h1 h2
/-- Division of integers. -/
def IDRet (w : World) (x y : Int) (k : Nat) (e : Ending) (w' : World) : Prop := ∃ g a l c g2 a2 l2 c2, e = .returned (.tuple #[.agg #[.bool g, .slice a l c], .agg #[.bool g2, .slice a2 l2 c2], .bool (decide (y ≠ 0))]) ∧ CZ w' (.agg #[.bool g, .slice a l c]) (x / y) k ∧ CZ w' (.agg #[.bool g2, .slice a2 l2 c2]) (if y = 0 then 0 else x % y) k ∧ Below w.heap.size w w'
theorem Calls.cID {P : Program} {f : FuncId} {args : Array Value} {w : World} {x y : Int} {k : Nat} {K : Ending → World → Prop} (h : Calls P f args w (IDRet w x y k))
    (hK : ∀ w' [Kp1 w w'] g a l c g2 a2 l2 c2 [CZ w' (.agg #[.bool g, .slice a l c]) (x / y) k] [CZ w' (.agg #[.bool g2, .slice a2 l2 c2]) (if y = 0 then 0 else x % y) k], K (.returned (.tuple #[.agg #[.bool g, .slice a l c], .agg #[.bool g2, .slice a2 l2 c2], .bool (decide (y ≠ 0))])) w') : Calls P f args w K := by
  refine h.mono ?_
  rintro e w' ⟨g, a, l, c, g2, a2, l2, c2, rfl, h1, h2, hb⟩
  exact @hK w' ⟨hb⟩ g a l c g2 a2 l2 c2 h1 h2
theorem sameNC {w : World} {a1 a2 : Option Addr} {l1 c1 l2 c2 m n k1 k2 : Nat} [h1 : CN w (.slice a1 l1 c1) m k1] [h2 : CN w (.slice a2 l2 c2) n k2] (e : m = n) :
    Calls Try.prog 44 #[.slice a1 l1 c1, .slice a2 l2 c2] w fun e w' => e = .returned (.bool true) ∧ Below w.heap.size w w' := sameNT h1.out h2.out e
/-- A natural and a Boolean. -/
def NBRet (w : World) (n : Nat) (v : Bool) (k : Nat) (e : Ending) (w' : World) : Prop := ∃ a l c, e = .returned (.tuple #[.slice a l c, .bool v]) ∧ CN w' (.slice a l c) n k ∧ Below w.heap.size w w'
theorem Calls.cNB {P : Program} {f : FuncId} {args : Array Value} {w : World} {n k : Nat} {v : Bool} {K : Ending → World → Prop} (h : Calls P f args w (NBRet w n v k))
    (hK : ∀ w' [Kp1 w w'] a l c [CN w' (.slice a l c) n k], K (.returned (.tuple #[.slice a l c, .bool v])) w') : Calls P f args w K := by
  refine h.mono ?_
  rintro e w' ⟨a, l, c, rfl, h1, hb⟩
  exact @hK w' ⟨hb⟩ a l c h1
theorem natSubC {w : World} {a1 a2 : Option Addr} {l1 c1 l2 c2 m n k1 k2 : Nat} [h1 : CR w (.slice a1 l1 c1) m k1] [h2 : CR w (.slice a2 l2 c2) n k2] (b : k1 ≤ 900000) :
    Calls Try.prog 36 #[.slice a1 l1 c1, .slice a2 l2 c2] w (NBRet w (m - n) (decide (n ≤ m)) k1) :=
  (subW h1.out h2.out b).mono fun _ _ ⟨a, l, c, e, h, hb⟩ => ⟨a, l, c, e, ⟨h⟩, hb⟩
theorem SgRet.fin {w w' : World} {a : Option Addr} {l c n k : Nat} {g g' : Bool} [b : Kp w w'] [h : CN w' (.slice a l c) n k] (e : g' = (g && decide (0 < l))) : SgRet w a l c (sgn g n) k (.returned (.agg #[.bool g', .slice a l c])) w' :=
  ⟨g', rfl, ⟨⟨_, _, _, _, rfl, by subst e; exact Zz.mk' h.out⟩⟩, b.out⟩
theorem CZ.mkB {W : World} {a : Option Addr} {l c n k : Nat} {g g' : Bool} [h : CN W (.slice a l c) n k] (e : g' = (g && decide (0 < l))) : CZ W (.agg #[.bool g', .slice a l c]) (sgn g n) k := ⟨⟨_, _, _, _, rfl, by subst e; exact Zz.mk' h.out⟩⟩
theorem CZ.mkA {W : World} {a : Option Addr} {l c n k : Nat} {g : Bool} {x : Int} [h : CN W (.slice a l c) n k] (en : n = x.natAbs) (e : g = decide (x < 0)) : CZ W (.agg #[.bool g, .slice a l c]) x k := ⟨⟨_, _, _, _, rfl, e, by subst en; exact h.out⟩⟩
end Go.Proofs.Ytfdgglddldlpjaa

/- A region that draws its order, whose last operations write cells that the region itself loads: the condition S on the world is asked only as long as none of those last operations (T) has been carried out. In the manner of the base's law on held conditions (Derived.OrdersHeld), with S let go at the end. -/
namespace Go.Proofs.Ytfdgglddldlpjaa
open Go.RowKit
section
variable {P : Program} {ops : Array Oper} {Q : Exit → Act → World → Prop} {md : Region.Mode} {S : World → Prop} {T : Nat → Bool}
/-- In whatever order it goes on, S holds behind every operation that is none of T. -/
def wpAnyT (P : Program) (md : Region.Mode) (ops : Array Oper) (Q : Exit → Act → World → Prop) (S : World → Prop) (T : Nat → Bool) : Nat → Array Bool → Act → World → Prop
  | 0, listed, a, w => Region.ready md ops listed = [] ∧ Q .normal a w
  | fuel + 1, listed, a, w => (Region.ready md ops listed = [] → Q .normal a w) ∧
    ∀ i ∈ Region.ready md ops listed, wpOp P ops Q i (fun a' w' => (T i = false → S w') ∧ wpAnyT P md ops Q S T fuel (listed.setIfInBounds i true) a' w') a w
theorem wpAny_of_T : ∀ (fuel : Nat) (listed : Array Bool) (a : Act) (w : World), wpAnyT P md ops Q S T fuel listed a w → wpAny P md ops Q fuel listed a w
  | 0, _, _, _, h => h
  | fuel + 1, _, _, _, h => ⟨h.1, fun i hi => wpOp_mono (fun a' w' k => wpAny_of_T fuel _ a' w' k.2) (h.2 i hi)⟩
/-- What waits for i. -/
def waits (md : Region.Mode) (ops : Array Oper) (i j : Nat) : Bool := match ops[j]? with
  | some o => o.after.any fun e => Region.binds md e && e.on == i
  | none => true
theorem not_waits {i j : Nat} {oj : Oper} (hj : ops[j]? = some oj) (hw : waits md ops i j = true) : ∃ e ∈ oj.after, Region.binds md e = true ∧ e.on = i := by
  unfold waits at hw
  rw [hj] at hw
  obtain ⟨e, he, h⟩ := Array.any_eq_true'.1 hw
  simp only [Bool.and_eq_true, beq_iff_eq] at h
  exact ⟨e, he, h.1, h.2⟩
theorem wpAnyT_first {i : Nat} {oi : Oper} {v : Value} (hi : ops[i]? = some oi) (hsel : ∀ (j : Nat) (o : Oper) cs b, ops[j]? = some o → o.op ≠ .select cs b)
    (hQ : ∀ c a w, Q (.panic c) (a.put oi.dst v) w → Q (.panic c) a w) (hT : ∀ j, T j = true → waits md ops i j = true) :
    ∀ (fuel : Nat) (listed : Array Bool) (a : Act) (w : World),
      (∀ j oj, ops[j]? = some oj → j ≠ i → listed.getD j true = false → (∀ e ∈ oj.after, Region.binds md e = true → e.on ≠ i) → oi.apart ops oj = true) →
      i ∈ Region.ready md ops listed → YieldsIf P ops S oi v a → S w →
      wpAnyT P md ops Q S T fuel (listed.setIfInBounds i true) (a.put oi.dst v) w → wpAnyT P md ops Q S T (fuel + 1) listed a w := by
  intro fuel
  induction fuel with
  | zero =>
    intro listed a w _ hr hy hS H
    refine ⟨fun h => (by rw [h] at hr; cases hr), fun j hj => ?_⟩
    by_cases hji : j = i
    · subst hji; exact hy.wpOp hi hS ⟨fun _ => hS, H⟩
    · have h0 := ready_mono hj hji
      rw [H.1] at h0
      cases h0
  | succ fuel ih =>
    intro listed a w hfree hr hy hS H
    refine ⟨fun h => (by rw [h] at hr; cases hr), fun j hj => ?_⟩
    by_cases hji : j = i
    · subst hji; exact hy.wpOp hi hS ⟨fun _ => hS, H⟩
    · obtain ⟨hjun, oj, hoj, hall⟩ := mem_ready.1 hj
      have hiun := (mem_ready.1 hr).1
      have hnot : ∀ e ∈ oj.after, Region.binds md e = true → e.on ≠ i := fun e he hb heq => by
        have h1 := hall e he hb
        rw [heq] at h1
        rcases Nat.lt_or_ge i listed.size with h' | h'
        · simp [h'] at hiun h1; rw [hiun] at h1; cases h1
        · simp [Array.getElem?_eq_none h'] at h1
      have hTj : T j = false := by
        cases hc : T j with
        | false => rfl
        | true =>
          obtain ⟨e, he, hb, ho⟩ := not_waits hoj (hT j hc)
          exact absurd ho (hnot e he hb)
      have k := wpOp_putIf hoj (hfree j oj hoj hji hjun hnot) (fun cs b => hsel i oi cs b hi) (fun cs b => hsel j oj cs b hoj) hQ hy (H.2 j (ready_mono hj hji))
      refine wpOp_mono (fun a' w' q => ⟨fun _ => q.2.1 hTj, ih (listed.setIfInBounds j true) a' w' (fun m om hm hmi hun hno => hfree m om hm hmi ?_ hno) (ready_mono hr (Ne.symm hji)) q.1 (q.2.1 hTj) ?_⟩) k
      · by_cases hjm : j = m
        · subst hjm; exact hjun
        · rw [getD_set_ne true hjm] at hun; exact hun
      · rw [Array.setIfInBounds_comm _ _ hji]
        exact q.2.2
/-- Number i is taken first; all of T waits for it. -/
theorem wpAnyT_take {i : Nat} {oi : Oper} {v : Value} {fuel : Nat} {listed : Array Bool} {a : Act} {w : World} (hi : ops[i]? = some oi)
    (hs : Region.noSelect ops = true) (hf : Region.free md ops listed i = true) (hr : (Region.ready md ops listed).contains i = true)
    (hQ : ∀ c a w, Q (.panic c) (a.put oi.dst v) w → Q (.panic c) a w) (hT : ∀ j, T j = true → waits md ops i j = true) (hy : YieldsIf P ops S oi v a) (hS : S w)
    (h : wpAnyT P md ops Q S T fuel (listed.setIfInBounds i true) (a.put oi.dst v) w) : wpAnyT P md ops Q S T (fuel + 1) listed a w :=
  wpAnyT_first hi (Region.noSelect_spec hs) hQ hT fuel listed a w (Region.free_spec hi hf) (by simpa using hr) hy hS h
/-- A pure operation of T is taken first: S is not asked. -/
theorem wpAnyT_first0 {i : Nat} {oi : Oper} {v : Value} (hi : ops[i]? = some oi) (hsel : ∀ (j : Nat) (o : Oper) cs b, ops[j]? = some o → o.op ≠ .select cs b)
    (hQ : ∀ c a w, Q (.panic c) (a.put oi.dst v) w → Q (.panic c) a w) (hTi : T i = true) :
    ∀ (fuel : Nat) (listed : Array Bool) (a : Act) (w : World),
      (∀ j oj, ops[j]? = some oj → j ≠ i → listed.getD j true = false → (∀ e ∈ oj.after, Region.binds md e = true → e.on ≠ i) → oi.apart ops oj = true) →
      i ∈ Region.ready md ops listed → YieldsIf P ops (fun _ => True) oi v a →
      wpAnyT P md ops Q S T fuel (listed.setIfInBounds i true) (a.put oi.dst v) w → wpAnyT P md ops Q S T (fuel + 1) listed a w := by
  have hno : ∀ w : World, T i = false → S w := fun w h => by rw [hTi] at h; cases h
  intro fuel
  induction fuel with
  | zero =>
    intro listed a w _ hr hy H
    refine ⟨fun h => (by rw [h] at hr; cases hr), fun j hj => ?_⟩
    by_cases hji : j = i
    · subst hji; exact hy.wpOp hi trivial ⟨hno w, H⟩
    · have h0 := ready_mono hj hji
      rw [H.1] at h0
      cases h0
  | succ fuel ih =>
    intro listed a w hfree hr hy H
    refine ⟨fun h => (by rw [h] at hr; cases hr), fun j hj => ?_⟩
    by_cases hji : j = i
    · subst hji; exact hy.wpOp hi trivial ⟨hno w, H⟩
    · obtain ⟨hjun, oj, hoj, hall⟩ := mem_ready.1 hj
      have hiun := (mem_ready.1 hr).1
      have hnot : ∀ e ∈ oj.after, Region.binds md e = true → e.on ≠ i := fun e he hb heq => by
        have h1 := hall e he hb
        rw [heq] at h1
        rcases Nat.lt_or_ge i listed.size with h' | h'
        · simp [h'] at hiun h1; rw [hiun] at h1; cases h1
        · simp [Array.getElem?_eq_none h'] at h1
      have k := wpOp_putIf hoj (hfree j oj hoj hji hjun hnot) (fun cs b => hsel i oi cs b hi) (fun cs b => hsel j oj cs b hoj) hQ hy (H.2 j (ready_mono hj hji))
      refine wpOp_mono (fun a' w' q => ⟨q.2.1, ih (listed.setIfInBounds j true) a' w' (fun m om hm hmi hun hno => hfree m om hm hmi ?_ hno) (ready_mono hr (Ne.symm hji)) q.1 ?_⟩) k
      · by_cases hjm : j = m
        · subst hjm; exact hjun
        · rw [getD_set_ne true hjm] at hun; exact hun
      · rw [Array.setIfInBounds_comm _ _ hji]
        exact q.2.2
theorem wpAnyT_take0 {i : Nat} {oi : Oper} {v : Value} {fuel : Nat} {listed : Array Bool} {a : Act} {w : World} (hi : ops[i]? = some oi)
    (hs : Region.noSelect ops = true) (hf : Region.free md ops listed i = true) (hr : (Region.ready md ops listed).contains i = true)
    (hQ : ∀ c a w, Q (.panic c) (a.put oi.dst v) w → Q (.panic c) a w) (hTi : T i = true) (hy : YieldsIf P ops (fun _ => True) oi v a)
    (h : wpAnyT P md ops Q S T fuel (listed.setIfInBounds i true) (a.put oi.dst v) w) : wpAnyT P md ops Q S T (fuel + 1) listed a w :=
  wpAnyT_first0 hi (Region.noSelect_spec hs) hQ hTi fuel listed a w (Region.free_spec hi hf) (by simpa using hr) hy h
def AllT (P : Program) (md : Region.Mode) (ops : Array Oper) (Q : Exit → Act → World → Prop) (S : World → Prop) (T : Nat → Bool) (fuel : Nat) (listed : Array Bool) (a : Act) (w : World) (rs : List Nat) : Prop :=
  ∀ i ∈ rs, wpOp P ops Q i (fun a' w' => (T i = false → S w') ∧ wpAnyT P md ops Q S T fuel (listed.setIfInBounds i true) a' w') a w
theorem AllT.nil {fuel : Nat} {listed : Array Bool} {a : Act} {w : World} : AllT P md ops Q S T fuel listed a w [] := fun _ h => by cases h
theorem AllT.cons {fuel : Nat} {listed : Array Bool} {a : Act} {w : World} {i : Nat} {o : Oper} {rs : List Nat} (ho : ops[i]? = some o)
    (h : ∀ K' : Act → World → Prop, Shut (∀ a w, (T i = false → S w) → ((T i = false → S w) → wpAnyT P md ops Q S T fuel (listed.setIfInBounds i true) a w) → K' a w) → if Region.wanted o (yielded ops a.tmps) = true then Oper.wp P o a w K' Q else K' (a.put o.dst undef) w)
    (hs : AllT P md ops Q S T fuel listed a w rs) : AllT P md ops Q S T fuel listed a w (i :: rs) := fun j hj => by
  rcases List.mem_cons.1 hj with rfl | hj
  · exact wpOp_step ho (fun K' hK => h K' (fun a w hS hW => hK a w ⟨hS, hW hS⟩))
  · exact hs j hj
theorem wpAnyT_ready {rs : List Nat} {fuel : Nat} {listed : Array Bool} {a : Act} {w : World} (hr : Region.ready md ops listed = rs) (hne : rs ≠ [])
    (h : AllT P md ops Q S T fuel listed a w rs) : wpAnyT P md ops Q S T (fuel + 1) listed a w := ⟨fun h0 => absurd (hr ▸ h0) hne, hr ▸ h⟩
theorem wpAnyT_done {listed : Array Bool} {a : Act} {w : World} (hr : Region.ready md ops listed = []) (h : Q .normal a w) : ∀ fuel, wpAnyT P md ops Q S T fuel listed a w
  | 0 => ⟨hr, h⟩
  | _ + 1 => ⟨fun _ => h, by rw [hr]; simp⟩
theorem region_t {id : Nat} {a : Act} {w : World} (hm : P.follows .mixedOrders = true) (L : List Nat) (T : Nat → Bool)
    (h : Ex w L w.drew → wpAnyT P .any ops Q (Ex w L) T ops.size (Array.replicate ops.size false) a w.drew) : (Code.region id ops true).wp P Q a w :=
  wp_region_any hm (wpAny_of_T _ _ _ _ (h Ex.dr))
/-- All of a finite T waits. -/
theorem T_waits {i : Nat} {L : List Nat} (h : (L.all fun j => waits md ops i j) = true) : ∀ j, (L.contains j) = true → waits md ops i j = true := fun j hj => by
  have := List.all_eq_true.1 h j (by simpa using hj)
  exact this
end
/-! ### The same, short: what is alike in every step is found by itself -/
section
variable {P : Program} {ops : Array Oper} {Q : Exit → Act → World → Prop} {md : Region.Mode} {w0 : World} {L Ts : List Nat}
theorem rgn {id : Nat} {a : Act} {w : World} (L Ts : List Nat) (h : Ex w L w.drew → wpAnyT P .any ops Q (Ex w L) Ts.contains ops.size (Array.replicate ops.size false) a w.drew) (hm : P.follows .mixedOrders = true := by kernel_rfl) : (Code.region id ops true).wp P Q a w := region_t hm L Ts.contains h
theorem tk (i : Nat) {oi : Oper} {v : Value} {fuel : Nat} {listed : Array Bool} {a a' : Act} {w : World} (hS : Ex w0 L w) (h : wpAnyT P md ops Q (Ex w0 L) Ts.contains fuel (listed.setIfInBounds i true) a' w)
    (hi : ops[i]? = some oi := by simp; rfl) (hs : Region.noSelect ops = true := by kernel_rfl) (hf : Region.free md ops listed i = true := by kernel_rfl) (hr : (Region.ready md ops listed).contains i = true := by kernel_rfl)
    (hQ : ∀ c a w, Q (.panic c) (a.put oi.dst v) w → Q (.panic c) a w := by exact fun _ _ _ h => h) (hT : (Ts.all fun j => waits md ops i j) = true := by kernel_rfl) (hw : Region.wanted oi (yielded ops a.tmps) = true := by rfl)
    (hy : ∀ wx, Ex w0 L wx → (execOp a.eval oi).run P wx = .ok (.value v) wx := by (intro wx hSw; have hSx := Ex1.mk hSw; go_simp; try with_reducible rfl))
    (ha : a.put oi.dst v = a' := by (simp only [Act.put, List.setIfInBounds_toArray, List.set_cons_zero, List.set_cons_succ]; first | done | rfl)) : wpAnyT P md ops Q (Ex w0 L) Ts.contains (fuel + 1) listed a w := by
  subst ha; exact wpAnyT_take hi hs hf hr hQ (T_waits hT) (Or.inl ⟨hw, hy⟩) hS h
/-- One that its guard passes over. -/
theorem tkU (i : Nat) {oi : Oper} {fuel : Nat} {listed : Array Bool} {a a' : Act} {w : World} (hS : Ex w0 L w) (h : wpAnyT P md ops Q (Ex w0 L) Ts.contains fuel (listed.setIfInBounds i true) a' w)
    (hi : ops[i]? = some oi := by simp; rfl) (hs : Region.noSelect ops = true := by kernel_rfl) (hf : Region.free md ops listed i = true := by kernel_rfl) (hr : (Region.ready md ops listed).contains i = true := by kernel_rfl)
    (hQ : ∀ c a w, Q (.panic c) (a.put oi.dst undef) w → Q (.panic c) a w := by exact fun _ _ _ h => h) (hT : (Ts.all fun j => waits md ops i j) = true := by kernel_rfl) (hw : Region.wanted oi (yielded ops a.tmps) = false := by rfl)
    (ha : a.put oi.dst undef = a' := by (simp only [Act.put, List.setIfInBounds_toArray, List.set_cons_zero, List.set_cons_succ]; first | done | rfl)) : wpAnyT P md ops Q (Ex w0 L) Ts.contains (fuel + 1) listed a w := by
  subst ha; exact wpAnyT_take hi hs hf hr hQ (T_waits hT) (Or.inr ⟨hw, rfl⟩) hS h
/-- A pure one of T. -/
theorem tk0 (i : Nat) {oi : Oper} {v : Value} {fuel : Nat} {listed : Array Bool} {a a' : Act} {w : World} (h : wpAnyT P md ops Q (Ex w0 L) Ts.contains fuel (listed.setIfInBounds i true) a' w)
    (hi : ops[i]? = some oi := by simp; rfl) (hs : Region.noSelect ops = true := by kernel_rfl) (hf : Region.free md ops listed i = true := by kernel_rfl) (hr : (Region.ready md ops listed).contains i = true := by kernel_rfl)
    (hQ : ∀ c a w, Q (.panic c) (a.put oi.dst v) w → Q (.panic c) a w := by exact fun _ _ _ h => h) (hTi : Ts.contains i = true := by rfl) (hw : Region.wanted oi (yielded ops a.tmps) = true := by rfl)
    (hy : ∀ wx, True → (execOp a.eval oi).run P wx = .ok (.value v) wx := by (intro wx _; go_simp; try with_reducible rfl))
    (ha : a.put oi.dst v = a' := by (simp only [Act.put, List.setIfInBounds_toArray, List.set_cons_zero, List.set_cons_succ]; first | done | rfl)) : wpAnyT P md ops Q (Ex w0 L) Ts.contains (fuel + 1) listed a w := by
  subst ha; exact wpAnyT_take0 hi hs hf hr hQ hTi (Or.inl ⟨hw, hy⟩) h
/-- The only one that may come up. -/
theorem st (i : Nat) {o : Oper} {fuel : Nat} {listed : Array Bool} {a : Act} {w : World}
    (h : ∀ K' : Act → World → Prop, Shut (∀ a w, (Ts.contains i = false → Ex w0 L w) → ((Ts.contains i = false → Ex w0 L w) → wpAnyT P md ops Q (Ex w0 L) Ts.contains fuel (listed.setIfInBounds i true) a w) → K' a w) → if Region.wanted o (yielded ops a.tmps) = true then Oper.wp P o a w K' Q else K' (a.put o.dst undef) w)
    (hr : Region.ready md ops listed = [i] := by kernel_rfl) (ho : ops[i]? = some o := by simp; rfl) : wpAnyT P md ops Q (Ex w0 L) Ts.contains (fuel + 1) listed a w := wpAnyT_ready hr (by simp) (AllT.cons ho h AllT.nil)
theorem hd {K : Act → World → Prop} {i fuel : Nat} {listed : Array Bool} {a a' : Act} {w : World} (hK : Shut (∀ a w, (Ts.contains i = false → Ex w0 L w) → ((Ts.contains i = false → Ex w0 L w) → wpAnyT P md ops Q (Ex w0 L) Ts.contains fuel listed a w) → K a w)) [hS : Ex w0 L w]
    (h : Ex w0 L w → wpAnyT P md ops Q (Ex w0 L) Ts.contains fuel listed a' w) (ha : a = a' := by (try simp only [Act.put, List.setIfInBounds_toArray, List.set_cons_zero, List.set_cons_succ]); first | done | rfl) : K a w :=
  hK.out a w (fun _ => hS) (fun _ => by subst ha; exact h hS)
theorem hdT {K : Act → World → Prop} {i fuel : Nat} {listed : Array Bool} {a a' : Act} {w : World} (hK : Shut (∀ a w, (Ts.contains i = false → Ex w0 L w) → ((Ts.contains i = false → Ex w0 L w) → wpAnyT P md ops Q (Ex w0 L) Ts.contains fuel listed a w) → K a w))
    (h : wpAnyT P md ops Q (Ex w0 L) Ts.contains fuel listed a' w) (hTi : Ts.contains i = true := by rfl) (ha : a = a' := by (try simp only [Act.put, List.setIfInBounds_toArray, List.set_cons_zero, List.set_cons_succ]); first | done | rfl) : K a w :=
  hK.out a w (fun e => by rw [hTi] at e; cases e) (fun _ => by subst ha; exact h)
theorem dn {fuel : Nat} {listed : Array Bool} {a : Act} {w : World} (h : Q .normal a w) (hr : Region.ready md ops listed = [] := by kernel_rfl) : wpAnyT P md ops Q (Ex w0 L) Ts.contains fuel listed a w := wpAnyT_done hr h fuel
end
/-- The block q was made after w0: it is none of those that w0 had. -/
class Nw (w0 : outParam World) (q : Nat) : Prop where out : w0.heap.size ≤ q
instance LtN.nw {w0 : World} {b q : Nat} {t : TypeId} {l : List Value} [n : Nw w0 q] [h : Bx w0 b t l] : LtN b q := ⟨Nat.lt_of_lt_of_le h.lt n.out⟩
/-- A region, its first world by name. -/
theorem rgnW {P : Program} {ops : Array Oper} {Q : Exit → Act → World → Prop} {id : Nat} {a : Act} {w : World} (L Ts : List Nat) (h : ∀ w0, Hid (w0 = w) → Ex w L w.drew → wpAnyT P .any ops Q (Ex w L) Ts.contains ops.size (Array.replicate ops.size false) a w.drew) (hm : P.follows .mixedOrders = true := by kernel_rfl) : (Code.region id ops true).wp P Q a w := region_t hm L Ts.contains (h w (Lib.hid rfl))
theorem kpOf {w0 w : World} (e : Hid (w0 = w)) {W : World} [h : Kp w W] : Kp w0 W := by rw [e.out]; exact h
theorem ggOf {w0 w : World} (e : Hid (w0 = w)) {b : Nat} (h : Gg w0 b) : Gg w b := by rw [← e.out]; exact h
theorem nwOf {w0 w : World} (e : Hid (w0 = w)) {b : Nat} (h : Ge w0 b) : Nw w b := by rw [← e.out]; exact ⟨h.out⟩
end Go.Proofs.Ytfdgglddldlpjaa

/- Contracts of integers: package integer and the reference's, by walks. printed by a small program (mkcon.py). -/
namespace Go.Proofs.Ytfdgglddldlpjaa
open Go.RowKit
set_option maxRecDepth 100000
set_option maxHeartbeats 40000000
set_option synthInstance.maxSize 100000
set_option synthInstance.maxHeartbeats 1000000
set_option linter.unusedVariables false
set_option linter.unusedSimpArgs false

theorem makeC {w : World} {g : Bool} {a : Option Addr} {l c n k : Nat} [h : CN w (.slice a l c) n k] : Calls Try.prog 20 #[.bool g, .slice a l c] w (SgRet w a l c (sgn g n) k) := by
  go_enter Try.func20, Try.ntmps20
  cases g
  all_goals
    go_wp2
    refine ret_bx rfl Try.underlying30 rfl (by kernel_rfl) rfl rfl rfl ?_
    exact SgRet.fin (by simp)
theorem signedC {w : World} {g : Bool} {a : Option Addr} {l c n k : Nat} [h : CN w (.slice a l c) n k] : Calls Try.prog 37 #[.bool g, .slice a l c] w (SgRet w a l c (sgn g n) k) := by
  go_enter Try.func37, Try.ntmps37
  cases g
  all_goals
    go_wp2
    refine ret_bx rfl Try.underlying25 rfl (by kernel_rfl) rfl rfl rfl ?_
    exact SgRet.fin (by simp)
theorem intNormC {w : World} {g1 : Bool} {a1 : Option Addr} {l1 c1 k1 : Nat} {x : Int} [h1 : CI w (.agg #[.bool g1, .slice a1 l1 c1]) x k1] (b : k1 ≤ 900000) :
    Calls Try.prog 12 #[.agg #[.bool g1, .slice a1 l1 c1]] w (CZRet w x (k1)) := by
  obtain ⟨m, r1, rfl⟩ := zi_of h1
  have i1 : CR w (.slice a1 l1 c1) m k1 := ⟨r1⟩
  clear r1
  cases g1
  all_goals
    go_enter Try.func12, Try.ntmps12
    go_wp2_with (first
    | (go_at_call 29; (with_reducible refine Calls.cN (normC (by omega)) ?_); intros))
    refine ret_bx rfl Try.underlying25 rfl (by kernel_rfl) rfl rfl rfl ?_
    exact CZRet.fin (hx := CZ.mkB (by simp)) rfl (by omega)
theorem intSignC {w : World} {g1 : Bool} {a1 : Option Addr} {l1 c1 k1 : Nat} {x : Int} [h1 : CI w (.agg #[.bool g1, .slice a1 l1 c1]) x k1] (b : k1 ≤ 900000) :
    Calls Try.prog 15 #[.agg #[.bool g1, .slice a1 l1 c1]] w (fun e w' => e = .returned (.int .i64 (isgn x)) ∧ Below w.heap.size w w') := by
  obtain ⟨m, r1, rfl⟩ := zi_of h1
  have i1 : CR w (.slice a1 l1 c1) m k1 := ⟨r1⟩
  clear r1
  by_cases hm : m = 0
  · have hb := nbits_eq0 hm
    have HE : Hid (isgn (sgn g1 m) = 0) := by subst hm; cases g1 <;> rfl
    clear hm
    go_enter Try.func15, Try.ntmps15
    go_wp2_with (first
    | (go_at_call 32; (with_reducible refine Calls.cS (bitsC (by omega)) ?_); intros))
    go_ret
    exact E.fin (by rw [HE.out]; rfl)
  · have hb := nbits_pos' hm
    have HE : Hid (isgn (sgn g1 m) = if g1 then -1 else 1) := by
      show _ = _
      unfold isgn
      cases g1 <;> simp [sgn] <;> omega
    clear hm
    cases g1
    all_goals
      go_enter Try.func15, Try.ntmps15
      go_wp2_with (first
      | (go_at_call 32; (with_reducible refine Calls.cS (bitsC (by omega)) ?_); intros))
      go_ret
      exact E.fin (by rw [HE.out]; rfl)
theorem intCmpC {w : World} {g1 g2 : Bool} {a1 a2 : Option Addr} {l1 c1 l2 c2 k1 k2 : Nat} {x y : Int} [h1 : CI w (.agg #[.bool g1, .slice a1 l1 c1]) x k1] [h2 : CI w (.agg #[.bool g2, .slice a2 l2 c2]) y k2] (b : k1 ≤ 900000 ∧ k2 ≤ 900000) :
    Calls Try.prog 17 #[.agg #[.bool g1, .slice a1 l1 c1], .agg #[.bool g2, .slice a2 l2 c2]] w (fun e w' => e = .returned (.int .i64 (icmp x y)) ∧ Below w.heap.size w w') := by
  obtain ⟨m, r1, rfl⟩ := zi_of h1
  obtain ⟨n, r2, rfl⟩ := zi_of h2
  have i1 : CR w (.slice a1 l1 c1) m k1 := ⟨r1⟩
  have i2 : CR w (.slice a2 l2 c2) n k2 := ⟨r2⟩
  have HE := Lib.hid (@icmp_of g1 g2 m n _ _ _ rfl rfl rfl)
  have hb1 := isgn_bd (sgn g1 m)
  have hb2 := isgn_bd (sgn g2 n)
  have hb3 := cmpN_bd m n
  have hb4 := mul_bd1 hb1 hb3
  obtain ⟨q1, q2⟩ := hb1
  obtain ⟨q3, q4⟩ := hb2
  obtain ⟨q5, q6⟩ := hb3
  obtain ⟨q7, q8⟩ := hb4
  clear r1 r2
  go_enter Try.func17, Try.ntmps17
  go_wp2_with fail
  refine rgn [] [] fun hHeld => ?_
  refine tk 0 hHeld ?_
  refine tk 2 hHeld ?_
  refine st 1 fun K hK => ?_
  go_simp
  (with_reducible refine Calls.cE (intSignC (by omega)) ?_); intros
  refine hd hK ?_
  clear hHeld hK K
  intro hHeld
  refine st 3 fun K hK => ?_
  go_simp
  (with_reducible refine Calls.cE (intSignC (by omega)) ?_); intros
  refine hd hK ?_
  clear hHeld hK K
  intro hHeld
  refine tk 4 hHeld ?_
  refine tk 5 hHeld ?_
  refine dn ?_
  clear hHeld
  by_cases h1 : isgn (sgn g1 m) < isgn (sgn g2 n)
  · go_wp2
    go_ret
    exact E.fin (by rw [HE.out.1 h1]; rfl)
  · by_cases h2 : isgn (sgn g2 n) < isgn (sgn g1 m)
    · go_wp2
      go_ret
      exact E.fin (by rw [HE.out.2.1 h2]; rfl)
    · have HQ : Hid (isgn (sgn g1 m) = isgn (sgn g2 n)) := by show _ = _; omega
      go_wp2_with (first
    | (go_at_call 33; (with_reducible refine Calls.cE (cmpC) ?_); intros))
      go_ret
      exact E.fin (by rw [HE.out.2.2 HQ.out]; rfl)
theorem int64C {w : World} {g1 : Bool} {a1 : Option Addr} {l1 c1 k1 : Nat} {x : Int} [h1 : CI w (.agg #[.bool g1, .slice a1 l1 c1]) x k1] :
    Calls Try.prog 7 #[.agg #[.bool g1, .slice a1 l1 c1]] w (fun e w' => e = .returned (int64V x) ∧ Below w.heap.size w w') := by
  obtain ⟨m, r1, rfl⟩ := zi_of h1
  have i1 : CR w (.slice a1 l1 c1) m k1 := ⟨r1⟩
  clear r1
  by_cases hm : m < 18446744073709551616
  · have hu := Lib.hid (uintV_lt hm)
    cases g1
    · have HI := Lib.hid (fun h : (m : Int) ≤ 9223372036854775807 => int64V_in (x := sgn false m) (by simp only [sgn_false]; omega))
      have HO := Lib.hid (fun h : ¬ (m : Int) ≤ 9223372036854775807 => int64V_out (x := sgn false m) (by simp only [sgn_false]; omega))
      go_enter Try.func7, Try.ntmps7
      go_wp2_with fail
      with_reducible refine Calls.cS uintC ?_
      rw [hu.out]
      by_cases h9 : (m : Int) ≤ 9223372036854775807
      · go_wp2
        go_ret2
        exact E.fin (by rw [HI.out h9]; rfl)
      · go_wp2
        go_ret2
        exact E.fin (by rw [HO.out h9]; rfl)
    · have HI := Lib.hid (fun h : (m : Int) ≤ 9223372036854775808 => int64V_in (x := sgn true m) (by simp only [sgn_true]; omega))
      have HO := Lib.hid (fun h : ¬ (m : Int) ≤ 9223372036854775808 => int64V_out (x := sgn true m) (by simp only [sgn_true]; omega))
      have HB := Lib.hid (fun h : (m : Int) ≤ 9223372036854775808 => wrap_back (m := m) (by omega))
      go_enter Try.func7, Try.ntmps7
      go_wp2_with fail
      with_reducible refine Calls.cS uintC ?_
      rw [hu.out]
      by_cases h9 : (m : Int) ≤ 9223372036854775808
      · go_wp2
        go_ret2
        exact E.fin (by rw [HI.out h9]; exact congrArg (fun z => Value.tuple #[.int .i64 z, .bool true]) (HB.out h9))
      · go_wp2
        go_ret2
        exact E.fin (by rw [HO.out h9]; rfl)
  · have hu := Lib.hid (uintV_ge (n := m) (by omega))
    have HO := Lib.hid (int64V_out (x := sgn g1 m) (by cases g1 <;> simp only [sgn_true, sgn_false] <;> omega))
    go_enter Try.func7, Try.ntmps7
    go_wp2_with fail
    with_reducible refine Calls.cS uintC ?_
    rw [hu.out]
    go_wp2
    go_ret2
    exact E.fin (by rw [HO.out]; rfl)
theorem fromIntC {w : World} {x : Int} (b : -9223372036854775808 ≤ x ∧ x < 9223372036854775808) : Calls Try.prog 8 #[.int .i64 x] w (CZRet w x 2) := by
  by_cases hx : x < 0
  · have HE := Lib.hid (wrap_negneg b.1 hx)
    have HD := Lib.hid (show true = decide (x < 0) by simp [hx])
    go_enter Try.func8, Try.ntmps8
    go_wp2_with fail
    rw [HE.out]
    with_reducible refine Calls.cN (fromUintC (by omega)) ?_
    intros
    go_wp2
    refine ret_bx rfl Try.underlying25 rfl (by kernel_rfl) rfl rfl rfl ?_
    exact CZRet.fin (hx := CZ.mkA (by omega) HD.out) rfl (by omega)
  · have hx0 : 0 ≤ x := by omega
    have HD := Lib.hid (show false = decide (x < 0) by simp; exact hx0)
    go_enter Try.func8, Try.ntmps8
    go_wp2_with fail
    with_reducible refine Calls.cN (fromUintC (by omega)) ?_
    intros
    go_wp2
    refine ret_bx rfl Try.underlying25 rfl (by kernel_rfl) rfl rfl rfl ?_
    exact CZRet.fin (hx := CZ.mkA (by omega) HD.out) rfl (by omega)
theorem numIntC {w : World} {x : Int} (b : -9223372036854775808 ≤ x ∧ x < 9223372036854775808) : Calls Try.prog 10 #[.int .i64 x] w (CZRet w x 2) := by
  by_cases hx : x < 0
  · have HE := Lib.hid (wrap_negneg b.1 hx)
    have HD := Lib.hid (show sgn true ((x.natAbs : Nat) : Int).natAbs = x by simp [sgn]; omega)
    go_enter Try.func10, Try.ntmps10
    go_wp2_with fail
    rw [HE.out]
    with_reducible refine Calls.cN (wordC (by omega)) ?_
    intros
    go_wp2_with (first
    | (go_at_call 20; (with_reducible refine Calls.cSg (makeC) ?_); intros))
    refine ret_bx rfl Try.underlying30 rfl (by kernel_rfl) rfl rfl rfl ?_
    exact CZRet.fin HD.out (by omega)
  · have hx0 : 0 ≤ x := by omega
    have HD := Lib.hid (show sgn false x.natAbs = x by simp [sgn]; omega)
    go_enter Try.func10, Try.ntmps10
    go_wp2_with fail
    with_reducible refine Calls.cN (wordC (by omega)) ?_
    intros
    go_wp2_with (first
    | (go_at_call 20; (with_reducible refine Calls.cSg (makeC) ?_); intros))
    refine ret_bx rfl Try.underlying30 rfl (by kernel_rfl) rfl rfl rfl ?_
    exact CZRet.fin HD.out (by omega)
theorem numSignC {w : World} {g1 : Bool} {a1 : Option Addr} {l1 c1 k1 : Nat} {x : Int} [h1 : CZ w (.agg #[.bool g1, .slice a1 l1 c1]) x k1] :
    Calls Try.prog 16 #[.agg #[.bool g1, .slice a1 l1 c1]] w (fun e w' => e = .returned (.int .i64 (isgn x)) ∧ Below w.heap.size w w') := by
  have HL := Lib.hid (zz_of h1).2.len
  have HG := Lib.hid (zz_of h1).1
  rcases isgn_cases x with ⟨hx, e⟩ | ⟨hx, e⟩ | ⟨hx, e⟩
  · have e1 : 0 < l1 := by rw [HL.out]; exact nf_len_pos (by omega)
    obtain rfl : g1 = true := by rw [HG.out]; simp [hx]
    clear HL HG hx h1
    go_enter Try.func16, Try.ntmps16
    go_wp2
    go_ret
    exact E.fin (by rw [e]; rfl)
  · obtain rfl : l1 = 0 := by rw [HL.out, hx]; rfl
    clear HL HG hx h1
    go_enter Try.func16, Try.ntmps16
    go_wp2
    go_ret
    exact E.fin (by rw [e]; rfl)
  · have e1 : 0 < l1 := by rw [HL.out]; exact nf_len_pos (by omega)
    obtain rfl : g1 = false := by rw [HG.out]; simp; omega
    clear HL HG hx h1
    go_enter Try.func16, Try.ntmps16
    go_wp2
    go_ret
    exact E.fin (by rw [e]; rfl)
theorem numMinusC {w : World} {g1 : Bool} {a1 : Option Addr} {l1 c1 k1 : Nat} {x : Int} [h1 : CZ w (.agg #[.bool g1, .slice a1 l1 c1]) x k1] :
    Calls Try.prog 25 #[.agg #[.bool g1, .slice a1 l1 c1]] w (CZRet w (-x) (k1)) := by
  have z1 := zz_of h1
  have i1 : CN w (.slice a1 l1 c1) x.natAbs k1 := ⟨z1.2⟩
  have HE : Hid (sgn (!g1) x.natAbs = -x) := by show _ = _; rw [z1.1]; exact sgn_not
  clear z1
  go_enter Try.func25, Try.ntmps25
  go_wp2_with (first
    | (go_at_call 20; (with_reducible refine Calls.cSg (makeC) ?_); intros))
  refine ret_bx rfl Try.underlying30 rfl (by kernel_rfl) rfl rfl rfl ?_
  exact CZRet.fin HE.out (by omega)
theorem numAddC {w : World} {g1 g2 : Bool} {a1 a2 : Option Addr} {l1 c1 l2 c2 k1 k2 : Nat} {x y : Int} [h1 : CZ w (.agg #[.bool g1, .slice a1 l1 c1]) x k1] [h2 : CZ w (.agg #[.bool g2, .slice a2 l2 c2]) y k2] (b : k1 ≤ 900000 ∧ k2 ≤ 900000) :
    Calls Try.prog 24 #[.agg #[.bool g1, .slice a1 l1 c1], .agg #[.bool g2, .slice a2 l2 c2]] w (CZRet w (x + y) (max k1 k2 + 1)) := by
  have z1 := zz_of h1
  have i1 : CN w (.slice a1 l1 c1) x.natAbs k1 := ⟨z1.2⟩
  have z2 := zz_of h2
  have i2 : CN w (.slice a2 l2 c2) y.natAbs k2 := ⟨z2.2⟩
  by_cases hg : g1 = g2
  · subst hg
    have HE : Hid (sgn g1 (x.natAbs + y.natAbs) = x + y) := by show _ = _; have h := sgn_add (z1.1.symm.trans z2.1); rw [← z1.1] at h; exact h
    clear z1 z2
    go_enter Try.func24, Try.ntmps24
    go_wp2_with fail
    refine rgn [w.heap.size + 1 + 1] [] fun hHeld => ?_
    refine tk 0 hHeld ?_
    refine tk 1 hHeld ?_
    refine tk 2 hHeld ?_
    refine tk 3 hHeld ?_
    refine tk 4 hHeld ?_
    refine tk 5 hHeld ?_
    refine st 6 fun K hK => ?_
    go_simp
    (with_reducible refine Calls.cN (numSumC (by omega)) ?_); intros
    refine hd hK ?_
    clear hHeld hK K
    intro hHeld
    refine st 7 fun K hK => ?_
    go_simp
    (with_reducible refine Calls.cSg (makeC) ?_); intros
    refine hd hK ?_
    clear hHeld hK K
    intro hHeld
    refine st 8 fun K hK => ?_
    go_simp
    refine hd hK ?_
    clear hHeld hK K
    intro hHeld
    refine dn ?_
    clear hHeld
    go_wp2
    refine ret_bx rfl Try.underlying30 rfl (by kernel_rfl) rfl rfl rfl ?_
    exact CZRet.fin HE.out (by omega)
  · have hb0 : (g1 == g2) = false := by simpa using hg
    rw [z1.1, z2.1] at hg
    by_cases hl : x.natAbs < y.natAbs
    · have HE : Hid (sgn g2 (y.natAbs - x.natAbs) = x + y) := by show _ = _; rw [z2.1]; have := @sgn_less y x (Ne.symm hg) (by omega); rw [Int.add_comm]; exact this
      have hc := cmpN_ltB hl
      have hle : x.natAbs ≤ y.natAbs := by omega
      clear z1 z2 hg hl
      go_enter Try.func24, Try.ntmps24
      go_wp2_with (first
    | (go_at_call 42; (with_reducible refine Calls.cE (numCmpC) ?_); intros))
      refine rgn [w.heap.size + 1 + 1] [] fun hHeld => ?_
      refine tk 0 hHeld ?_
      refine tk 1 hHeld ?_
      refine tk 2 hHeld ?_
      refine tk 3 hHeld ?_
      refine tk 4 hHeld ?_
      refine tk 5 hHeld ?_
      refine st 6 fun K hK => ?_
      go_simp
      (with_reducible refine Calls.cN (numLessC (by omega) hle) ?_); intros
      refine hd hK ?_
      clear hHeld hK K
      intro hHeld
      refine st 7 fun K hK => ?_
      go_simp
      (with_reducible refine Calls.cSg (makeC) ?_); intros
      refine hd hK ?_
      clear hHeld hK K
      intro hHeld
      refine st 8 fun K hK => ?_
      go_simp
      refine hd hK ?_
      clear hHeld hK K
      intro hHeld
      refine dn ?_
      clear hHeld
      go_wp2
      refine ret_bx rfl Try.underlying30 rfl (by kernel_rfl) rfl rfl rfl ?_
      exact CZRet.fin HE.out (by omega)
    · have hle : y.natAbs ≤ x.natAbs := by omega
      have HE : Hid (sgn g1 (x.natAbs - y.natAbs) = x + y) := by show _ = _; rw [z1.1]; exact sgn_less hg hle
      have hc := cmpN_geB hle
      clear z1 z2 hg hl
      go_enter Try.func24, Try.ntmps24
      go_wp2_with (first
    | (go_at_call 42; (with_reducible refine Calls.cE (numCmpC) ?_); intros))
      refine rgn [w.heap.size + 1 + 1] [] fun hHeld => ?_
      refine tk 0 hHeld ?_
      refine tk 1 hHeld ?_
      refine tk 2 hHeld ?_
      refine tk 3 hHeld ?_
      refine tk 4 hHeld ?_
      refine tk 5 hHeld ?_
      refine st 6 fun K hK => ?_
      go_simp
      (with_reducible refine Calls.cN (numLessC (by omega) hle) ?_); intros
      refine hd hK ?_
      clear hHeld hK K
      intro hHeld
      refine st 7 fun K hK => ?_
      go_simp
      (with_reducible refine Calls.cSg (makeC) ?_); intros
      refine hd hK ?_
      clear hHeld hK K
      intro hHeld
      refine st 8 fun K hK => ?_
      go_simp
      refine hd hK ?_
      clear hHeld hK K
      intro hHeld
      refine dn ?_
      clear hHeld
      go_wp2
      refine ret_bx rfl Try.underlying30 rfl (by kernel_rfl) rfl rfl rfl ?_
      exact CZRet.fin HE.out (by omega)
theorem numCompareC {w : World} {g1 g2 : Bool} {a1 a2 : Option Addr} {l1 c1 l2 c2 k1 k2 : Nat} {x y : Int} [h1 : CZ w (.agg #[.bool g1, .slice a1 l1 c1]) x k1] [h2 : CZ w (.agg #[.bool g2, .slice a2 l2 c2]) y k2] (b : k1 ≤ 900000 ∧ k2 ≤ 900000) :
    Calls Try.prog 9 #[.agg #[.bool g1, .slice a1 l1 c1], .agg #[.bool g2, .slice a2 l2 c2]] w (fun e w' => e = .returned (.int .i64 (icmp x y)) ∧ Below w.heap.size w w') := by
  have HE := Lib.hid (show isgn (x + -y) = icmp x y by unfold isgn icmp; repeat' split; all_goals omega)
  go_enter Try.func9, Try.ntmps9
  go_wp2_with fail
  refine rgn [] [] fun hHeld => ?_
  refine tk 0 hHeld ?_
  refine tk 1 hHeld ?_
  refine st 2 fun K hK => ?_
  go_simp
  (with_reducible refine Calls.cZ (numMinusC) ?_); intros
  refine hd hK ?_
  clear hHeld hK K
  intro hHeld
  refine st 3 fun K hK => ?_
  go_simp
  (with_reducible refine Calls.cZ (numAddC (by omega)) ?_); intros
  refine hd hK ?_
  clear hHeld hK K
  intro hHeld
  refine st 4 fun K hK => ?_
  go_simp
  (with_reducible refine Calls.cE (numSignC) ?_); intros
  refine hd hK ?_
  clear hHeld hK K
  intro hHeld
  refine tk 5 hHeld ?_
  refine dn ?_
  clear hHeld
  go_wp2
  go_ret
  exact E.fin (by rw [HE.out]; rfl)
theorem refIC {w : World} {g1 : Bool} {a1 : Option Addr} {l1 c1 k1 : Nat} {x : Int} [h1 : CI w (.agg #[.bool g1, .slice a1 l1 c1]) x k1] (b : k1 ≤ 900000) :
    Calls Try.prog 6 #[.agg #[.bool g1, .slice a1 l1 c1]] w (CZRet w x (k1)) := by
  obtain ⟨m, r1, rfl⟩ := zi_of h1
  have i1 : CR w (.slice a1 l1 c1) m k1 := ⟨r1⟩
  clear r1
  go_enter Try.func6, Try.ntmps6
  go_wp2_with fail
  refine rgn [w.heap.size + 1] [] fun hHeld => ?_
  refine tk 0 hHeld ?_
  refine tk 1 hHeld ?_
  refine tk 2 hHeld ?_
  refine tk 3 hHeld ?_
  refine st 4 fun K hK => ?_
  go_simp
  (with_reducible refine Calls.cN (refNC (by omega)) ?_); intros
  refine hd hK ?_
  clear hHeld hK K
  intro hHeld
  refine st 5 fun K hK => ?_
  go_simp
  (with_reducible refine Calls.cSg (makeC) ?_); intros
  refine hd hK ?_
  clear hHeld hK K
  intro hHeld
  refine st 6 fun K hK => ?_
  go_simp
  refine hd hK ?_
  clear hHeld hK K
  intro hHeld
  refine dn ?_
  clear hHeld
  go_wp2
  refine ret_bx rfl Try.underlying30 rfl (by kernel_rfl) rfl rfl rfl ?_
  exact CZRet.fin rfl (by omega)
theorem toIC {w : World} {g1 : Bool} {a1 : Option Addr} {l1 c1 k1 : Nat} {x : Int} [h1 : CZ w (.agg #[.bool g1, .slice a1 l1 c1]) x k1] (b : k1 ≤ 900000) :
    Calls Try.prog 28 #[.agg #[.bool g1, .slice a1 l1 c1]] w (CZRet w x (k1)) := by
  have z1 := zz_of h1
  have i1 : CN w (.slice a1 l1 c1) x.natAbs k1 := ⟨z1.2⟩
  have HG := Lib.hid z1.1
  clear z1
  go_enter Try.func28, Try.ntmps28
  go_wp2_with fail
  refine rgn [w.heap.size + 1] [] fun hHeld => ?_
  refine tk 0 hHeld ?_
  refine tk 1 hHeld ?_
  refine tk 2 hHeld ?_
  refine tk 3 hHeld ?_
  refine st 4 fun K hK => ?_
  go_simp
  (with_reducible refine Calls.cN (refToNC (by omega)) ?_); intros
  refine hd hK ?_
  clear hHeld hK K
  intro hHeld
  refine tk 5 hHeld ?_
  refine st 6 fun K hK => ?_
  go_simp
  refine hd hK ?_
  clear hHeld hK K
  intro hHeld
  refine dn ?_
  clear hHeld
  go_wp2
  refine ret_bx rfl Try.underlying25 rfl (by kernel_rfl) rfl rfl rfl ?_
  exact CZRet.fin (hx := CZ.mkA rfl HG.out) rfl (by omega)
theorem sameIC {w : World} {g1 g2 : Bool} {a1 a2 : Option Addr} {l1 c1 l2 c2 k1 k2 : Nat} {x y : Int} [h1 : CZ w (.agg #[.bool g1, .slice a1 l1 c1]) x k1] [h2 : CZ w (.agg #[.bool g2, .slice a2 l2 c2]) y k2] (e : x = y) :
    Calls Try.prog 27 #[.agg #[.bool g1, .slice a1 l1 c1], .agg #[.bool g2, .slice a2 l2 c2]] w (fun e w' => e = .returned (.bool true) ∧ Below w.heap.size w w') := by
  subst e
  have z1 := zz_of h1
  have z2 := zz_of h2
  have i1 : CN w (.slice a1 l1 c1) x.natAbs k1 := ⟨z1.2⟩
  have i2 : CN w (.slice a2 l2 c2) x.natAbs k2 := ⟨z2.2⟩
  obtain rfl : g2 = g1 := by rw [z1.1, z2.1]
  clear z1 z2
  go_enter Try.func27, Try.ntmps27
  go_wp2_with (first
    | (go_at_call 44; (with_reducible refine Calls.cE (sameNC rfl) ?_); intros))
  go_ret
  exact E.fin rfl
end Go.Proofs.Ytfdgglddldlpjaa

/- Texts of naturals and integers. printed by a small program (mkfmt.py). -/
namespace Go.Proofs.Ytfdgglddldlpjaa
open Go.RowKit
set_option maxRecDepth 100000
set_option maxHeartbeats 40000000
set_option synthInstance.maxSize 100000
set_option synthInstance.maxHeartbeats 1000000

/-- What an integer is written as. -/
def decI (x : Int) : ByteArray := if x < 0 then ⟨#[45]⟩ ++ decStr x.natAbs else decStr x.natAbs
theorem decStr_size (m : Nat) : (decStr m).size ≤ 1 + (dl m).length := by
  show (((decBytes m).map UInt8.ofNat).toArray).size ≤ _
  simp only [List.size_toArray, List.length_map]
  unfold decBytes
  split <;> simp
theorem natFormatC {w : World} {a1 : Option Addr} {l1 c1 m k1 : Nat} [h1 : CR w (.slice a1 l1 c1) m k1] (b : k1 ≤ 900000 ∧ (dl m).length ≤ 100000000) :
    Calls Try.prog 38 #[.slice a1 l1 c1] w fun e w' => e = .returned (.string (decStr m)) ∧ Below w.heap.size w w' := by
  obtain ⟨l, h, rfl, hl⟩ := h1.out
  exact format_any w _ l h (by omega) b.2
theorem intFormatC {w : World} {g1 : Bool} {a1 : Option Addr} {l1 c1 : Nat} {x : Int} {k1 : Nat} [h1 : CI w (.agg #[.bool g1, .slice a1 l1 c1]) x k1] (b : k1 ≤ 900000 ∧ (dl x.natAbs).length ≤ 100000000) :
    Calls Try.prog 19 #[.agg #[.bool g1, .slice a1 l1 c1]] w fun e w' => e = .returned (.string (decI x)) ∧ Below w.heap.size w w' := by
  obtain ⟨m, hz, hx⟩ := zi_of h1
  have i1 : CR w (.slice a1 l1 c1) m k1 := ⟨hz⟩
  have hm : x.natAbs = m := by rw [hx, sgn_abs]
  clear hz hx
  subst hm
  by_cases hx : x < 0
  · have hs : isgn x = -1 := by unfold isgn; rw [if_pos hx]
    have HD : Hid (decI x = ⟨#[45]⟩ ++ decStr x.natAbs) := if_pos hx
    have hsz0 := decStr_size x.natAbs
    have hsz : (9223372036854775807 < 1 + (decStr x.natAbs).size) ↔ False := ⟨fun h => by omega, False.elim⟩
    clear hx hsz0
    go_enter Try.func19, Try.ntmps19
    go_wp2_with (first
    | (go_at_call 38; (with_reducible refine Calls.cE (natFormatC (by omega)) ?_); intros)
    | (go_at_call 15; (with_reducible refine Calls.cE (intSignC (by omega)) ?_); intros))
    go_ret
    exact E.fin (by rw [HD.out]; rfl)
  · have hs : isgn x < 0 ↔ False := by unfold isgn; rw [if_neg hx]; split <;> simp
    have HD : Hid (decI x = decStr x.natAbs) := if_neg hx
    clear hx
    go_enter Try.func19, Try.ntmps19
    go_wp2_with (first
    | (go_at_call 38; (with_reducible refine Calls.cE (natFormatC (by omega)) ?_); intros)
    | (go_at_call 15; (with_reducible refine Calls.cE (intSignC (by omega)) ?_); intros))
    go_ret
    exact E.fin (by rw [HD.out]; rfl)

end Go.Proofs.Ytfdgglddldlpjaa
