/-
  Texts of this claim, joined: Rdg, Frac0, Frac.
-/
import Derived.Test.YtdlnoeegboapkaaGreatDoorCI
import Derived.Test.YtdlnoeegboapkaaGreatDoorCE
import Derived.Lib.Hide
import Derived.Deep.QuietTactic
import Derived.BigQuiet
import Derived.Shelf.Bits.Mul64
import Derived.IntWalk
/- Readings of rational numbers in memory: the reference's numbers, those of package api (in normal form, and in any form), and those of package frac. printed by a small program (mkrdg.py). -/
namespace Go.Proofs.YtdlnoeegboapkaaGreatDoor
open Go.RowKit

/-- What reads a number in W reads it in W2. -/
structure Pres (W W2 : World) : Prop where
  nn : ∀ {v : Value} {n k : Nat}, Nn W v n k → Nn W2 v n k
  rr : ∀ {v : Value} {n k : Nat}, Rr W v n k → Rr W2 v n k
  pair : ∀ {b : Nat} {l : Array Value}, W.heap[b]? = some (Obj.cells l 300 (0, 0)) → W2.heap[b]? = some (Obj.cells l 300 (0, 0))
theorem Pres.below {W W2 : World} (h : Below W.heap.size W W2) : Pres W W2 := ⟨fun x => x.keep h, fun x => x.keep h, fun x => by rw [h.block _ (heap_lt x)]; exact x⟩
theorem Pres.tape {W W2 : World} {g : Nat} (h : Tp1 W W2 g) : Pres W W2 := ⟨fun x => Nn.tp2 h.gb h.tp x, fun x => Rr.tp2 h.gb h.tp x, fun {b l} x => by
  rw [h.gb.block _ (heap_lt x) ?_]
  · exact x
  · intro e
    injection e with e
    subst e
    obtain ⟨a, n, c, at_, zs, hh, _⟩ := h.tp
    rw [x] at hh
    injection hh with hh
    injection hh with _ h2
    exact absurd h2 (by decide)⟩
theorem Pres.soft {W : World} {q i : Nat} {x : Value} (h : SoftB W q) : Pres W (W.setCell ⟨q, i, none⟩ x) := ⟨fun y => y.soft h, fun y => y.soft h, fun {b l} y => by
  obtain ⟨t, l', h1, h2, _⟩ := h.out
  have hne : q ≠ b := by
    intro e
    subst e
    rw [h1] at y
    injection y with y
    injection y with _ y2
    exact h2.pair y2
  simp only [World.setCell, Array.getElem?_modify]
  rw [if_neg hne]; exact y⟩
def Qq (W : World) (v : Value) (q : Rat) (k : Nat) : Prop := ∃ g a l c aa ll cc, v = .agg #[.bool g, .slice a l c, .slice aa ll cc] ∧ (g = decide (q.num < 0) ∧ Nn W (.slice a l c) q.num.natAbs k) ∧ Nn W (.slice aa ll cc) (if q.den = 1 then 0 else q.den) k
def Qa (W : World) (v : Value) (q : Rat) (k : Nat) : Prop := ∃ g a l c aa ll cc, v = .agg #[.bool g, .slice a l c, .slice aa ll cc] ∧ (g = decide (q.num < 0) ∧ Nn W (.slice a l c) q.num.natAbs k) ∧ Nn W (.slice aa ll cc) q.den k
def Qw (W : World) (v : Value) (q : Rat) (k : Nat) : Prop := ∃ g a l c aa ll cc m n, v = .agg #[.bool g, .slice a l c, .slice aa ll cc] ∧ Rr W (.slice a l c) m k ∧ Rr W (.slice aa ll cc) n k ∧ q = mkRat (sgn g m) n
def Qf (W : World) (v : Value) (q : Rat) (k : Nat) : Prop :=
  (v = .agg #[.int .i64 q.num, .int .i64 ((q.den : Int) - 1), .pointer none] ∧ -4611686018427387904 < q.num ∧ q.num < 4611686018427387904 ∧ q.den < 4611686018427387904 ∧ 2 ≤ k) ∨
  (∃ b g a l c aa ll cc, v = .agg #[.int .i64 0, .int .i64 0, .pointer (some ⟨b, 0, none⟩)] ∧ W.heap[b]? = some (.cells #[.bool g, .slice a l c, .slice aa ll cc] 300 (0, 0)) ∧
    (g = decide (q.num < 0) ∧ Nn W (.slice a l c) q.num.natAbs k) ∧ Nn W (.slice aa ll cc) q.den k ∧ q ≠ 0)
theorem Qq.map {W W2 : World} {v : Value} {q : Rat} {k : Nat} (h : Qq W v q k) (p : Pres W W2) : Qq W2 v q k := by
  obtain ⟨g, a, l, c, aa, ll, cc, e, h1, h2⟩ := h; exact ⟨g, a, l, c, aa, ll, cc, e, ⟨h1.1, p.nn h1.2⟩, p.nn h2⟩
theorem Qa.map {W W2 : World} {v : Value} {q : Rat} {k : Nat} (h : Qa W v q k) (p : Pres W W2) : Qa W2 v q k := by
  obtain ⟨g, a, l, c, aa, ll, cc, e, h1, h2⟩ := h; exact ⟨g, a, l, c, aa, ll, cc, e, ⟨h1.1, p.nn h1.2⟩, p.nn h2⟩
theorem Qw.map {W W2 : World} {v : Value} {q : Rat} {k : Nat} (h : Qw W v q k) (p : Pres W W2) : Qw W2 v q k := by
  obtain ⟨g, a, l, c, aa, ll, cc, m, n, e, h1, h2, h3⟩ := h; exact ⟨g, a, l, c, aa, ll, cc, m, n, e, p.rr h1, p.rr h2, h3⟩
theorem Qf.map {W W2 : World} {v : Value} {q : Rat} {k : Nat} (h : Qf W v q k) (p : Pres W W2) : Qf W2 v q k := by
  rcases h with h | ⟨b, g, a, l, c, aa, ll, cc, e, h0, h1, h2, h3⟩
  · exact .inl h
  · exact .inr ⟨b, g, a, l, c, aa, ll, cc, e, p.pair h0, ⟨h1.1, p.nn h1.2⟩, p.nn h2, h3⟩
/-- The struct v is the number q of the reference. -/
class CQ (W : World) (v : Value) (q : outParam Rat) (k : outParam Nat) : Prop where out : Qq W v q k
instance CQ.al {W : World} {v : Value} {q : Rat} {k : Nat} {o : Obj} [h : CQ W v q k] : CQ (W.alloc o) v q k := ⟨h.out.map (Pres.below (blw_one _ _))⟩
instance CQ.dr {W : World} {v : Value} {q : Rat} {k : Nat} [h : CQ W v q k] : CQ W.drew v q k := ⟨h.out.map (Pres.below (blw_drew (Below.refl _ _)))⟩
instance CQ.drN {W : World} {v : Value} {q : Rat} {k : Nat} {j : Nat} [h : CQ W v q k] : CQ (W.drewN j) v q k := ⟨h.out.map (Pres.below (blw_drewN (Below.refl _ _) _))⟩
instance CQ.kp {W W2 : World} {v : Value} {q : Rat} {k : Nat} [b : Kp1 W W2] [h : CQ W v q k] : CQ W2 v q k := ⟨h.out.map (Pres.below (b.out))⟩
instance CQ.tp {W W2 : World} {v : Value} {q : Rat} {k : Nat} {g : Nat} [b : Tp1 W W2 g] [h : CQ W v q k] : CQ W2 v q k := ⟨h.out.map (Pres.tape b)⟩
instance CQ.st {W : World} {v : Value} {q : Rat} {k : Nat} {qb ib : Nat} {xv : Value} [b : SoftB W qb] [h : CQ W v q k] : CQ (W.setCell ⟨qb, ib, none⟩ xv) v q k := ⟨h.out.map (Pres.soft b)⟩
/-- The struct v is the number q in normal form. -/
class CA (W : World) (v : Value) (q : outParam Rat) (k : outParam Nat) : Prop where out : Qa W v q k
instance CA.al {W : World} {v : Value} {q : Rat} {k : Nat} {o : Obj} [h : CA W v q k] : CA (W.alloc o) v q k := ⟨h.out.map (Pres.below (blw_one _ _))⟩
instance CA.dr {W : World} {v : Value} {q : Rat} {k : Nat} [h : CA W v q k] : CA W.drew v q k := ⟨h.out.map (Pres.below (blw_drew (Below.refl _ _)))⟩
instance CA.drN {W : World} {v : Value} {q : Rat} {k : Nat} {j : Nat} [h : CA W v q k] : CA (W.drewN j) v q k := ⟨h.out.map (Pres.below (blw_drewN (Below.refl _ _) _))⟩
instance CA.kp {W W2 : World} {v : Value} {q : Rat} {k : Nat} [b : Kp1 W W2] [h : CA W v q k] : CA W2 v q k := ⟨h.out.map (Pres.below (b.out))⟩
instance CA.tp {W W2 : World} {v : Value} {q : Rat} {k : Nat} {g : Nat} [b : Tp1 W W2 g] [h : CA W v q k] : CA W2 v q k := ⟨h.out.map (Pres.tape b)⟩
instance CA.st {W : World} {v : Value} {q : Rat} {k : Nat} {qb ib : Nat} {xv : Value} [b : SoftB W qb] [h : CA W v q k] : CA (W.setCell ⟨qb, ib, none⟩ xv) v q k := ⟨h.out.map (Pres.soft b)⟩
/-- The struct v reads as the number q. -/
class CW (W : World) (v : Value) (q : outParam Rat) (k : outParam Nat) : Prop where out : Qw W v q k
instance CW.al {W : World} {v : Value} {q : Rat} {k : Nat} {o : Obj} [h : CW W v q k] : CW (W.alloc o) v q k := ⟨h.out.map (Pres.below (blw_one _ _))⟩
instance CW.dr {W : World} {v : Value} {q : Rat} {k : Nat} [h : CW W v q k] : CW W.drew v q k := ⟨h.out.map (Pres.below (blw_drew (Below.refl _ _)))⟩
instance CW.drN {W : World} {v : Value} {q : Rat} {k : Nat} {j : Nat} [h : CW W v q k] : CW (W.drewN j) v q k := ⟨h.out.map (Pres.below (blw_drewN (Below.refl _ _) _))⟩
instance CW.kp {W W2 : World} {v : Value} {q : Rat} {k : Nat} [b : Kp1 W W2] [h : CW W v q k] : CW W2 v q k := ⟨h.out.map (Pres.below (b.out))⟩
instance CW.tp {W W2 : World} {v : Value} {q : Rat} {k : Nat} {g : Nat} [b : Tp1 W W2 g] [h : CW W v q k] : CW W2 v q k := ⟨h.out.map (Pres.tape b)⟩
instance CW.st {W : World} {v : Value} {q : Rat} {k : Nat} {qb ib : Nat} {xv : Value} [b : SoftB W qb] [h : CW W v q k] : CW (W.setCell ⟨qb, ib, none⟩ xv) v q k := ⟨h.out.map (Pres.soft b)⟩
/-- The struct v is the number q of package frac. -/
class CF (W : World) (v : Value) (q : outParam Rat) (k : outParam Nat) : Prop where out : Qf W v q k
instance CF.al {W : World} {v : Value} {q : Rat} {k : Nat} {o : Obj} [h : CF W v q k] : CF (W.alloc o) v q k := ⟨h.out.map (Pres.below (blw_one _ _))⟩
instance CF.dr {W : World} {v : Value} {q : Rat} {k : Nat} [h : CF W v q k] : CF W.drew v q k := ⟨h.out.map (Pres.below (blw_drew (Below.refl _ _)))⟩
instance CF.drN {W : World} {v : Value} {q : Rat} {k : Nat} {j : Nat} [h : CF W v q k] : CF (W.drewN j) v q k := ⟨h.out.map (Pres.below (blw_drewN (Below.refl _ _) _))⟩
instance CF.kp {W W2 : World} {v : Value} {q : Rat} {k : Nat} [b : Kp1 W W2] [h : CF W v q k] : CF W2 v q k := ⟨h.out.map (Pres.below (b.out))⟩
instance CF.tp {W W2 : World} {v : Value} {q : Rat} {k : Nat} {g : Nat} [b : Tp1 W W2 g] [h : CF W v q k] : CF W2 v q k := ⟨h.out.map (Pres.tape b)⟩
instance CF.st {W : World} {v : Value} {q : Rat} {k : Nat} {qb ib : Nat} {xv : Value} [b : SoftB W qb] [h : CF W v q k] : CF (W.setCell ⟨qb, ib, none⟩ xv) v q k := ⟨h.out.map (Pres.soft b)⟩
theorem Qq.mono {W : World} {v : Value} {q : Rat} {k k' : Nat} (h : Qq W v q k) (b : k ≤ k') : Qq W v q k' := by
  obtain ⟨g, a, l, c, aa, ll, cc, e, h1, h2⟩ := h; exact ⟨g, a, l, c, aa, ll, cc, e, ⟨h1.1, h1.2.mono b⟩, h2.mono b⟩
theorem Qa.mono {W : World} {v : Value} {q : Rat} {k k' : Nat} (h : Qa W v q k) (b : k ≤ k') : Qa W v q k' := by
  obtain ⟨g, a, l, c, aa, ll, cc, e, h1, h2⟩ := h; exact ⟨g, a, l, c, aa, ll, cc, e, ⟨h1.1, h1.2.mono b⟩, h2.mono b⟩
theorem Qw.mono {W : World} {v : Value} {q : Rat} {k k' : Nat} (h : Qw W v q k) (b : k ≤ k') : Qw W v q k' := by
  obtain ⟨g, a, l, c, aa, ll, cc, m, n, e, h1, h2, h3⟩ := h; exact ⟨g, a, l, c, aa, ll, cc, m, n, e, h1.mono b, h2.mono b, h3⟩
theorem Qf.mono {W : World} {v : Value} {q : Rat} {k k' : Nat} (h : Qf W v q k) (b : k ≤ k') : Qf W v q k' := by
  rcases h with ⟨e, h1, h2, h3, h4⟩ | ⟨bb, g, a, l, c, aa, ll, cc, e, h0, h1, h2, h3⟩
  · exact .inl ⟨e, h1, h2, h3, Nat.le_trans h4 b⟩
  · exact .inr ⟨bb, g, a, l, c, aa, ll, cc, e, h0, ⟨h1.1, h1.2.mono b⟩, h2.mono b, h3⟩
theorem CQ.cast {W : World} {v : Value} {q q' : Rat} {k k' : Nat} (h : CQ W v q k) (e : q = q') (b : k ≤ k') : CQ W v q' k' := by
  subst e; exact ⟨h.out.mono b⟩
theorem CA.cast {W : World} {v : Value} {q q' : Rat} {k k' : Nat} (h : CA W v q k) (e : q = q') (b : k ≤ k') : CA W v q' k' := by
  subst e; exact ⟨h.out.mono b⟩
theorem CW.cast {W : World} {v : Value} {q q' : Rat} {k k' : Nat} (h : CW W v q k) (e : q = q') (b : k ≤ k') : CW W v q' k' := by
  subst e; exact ⟨h.out.mono b⟩
theorem CF.cast {W : World} {v : Value} {q q' : Rat} {k k' : Nat} (h : CF W v q k) (e : q = q') (b : k ≤ k') : CF W v q' k' := by
  subst e; exact ⟨h.out.mono b⟩
/-- A value of the kind Q is returned; nothing that was there has changed. -/
def CQRet (w : World) (x : Rat) (k : Nat) (e : Ending) (w' : World) : Prop := ∃ g a l c aa ll cc, e = .returned (.agg #[.bool g, .slice a l c, .slice aa ll cc]) ∧ CQ w' (.agg #[.bool g, .slice a l c, .slice aa ll cc]) x k ∧ Below w.heap.size w w'
theorem Calls.cQ {P : Program} {f : FuncId} {args : Array Value} {w : World} {x : Rat} {k : Nat} {K : Ending → World → Prop} (h : Calls P f args w (CQRet w x k))
    (hK : ∀ w' [Kp1 w w'] (g : Bool) (a : Option Addr) (l : Nat) (c : Nat) (aa : Option Addr) (ll : Nat) (cc : Nat) [CQ w' (.agg #[.bool g, .slice a l c, .slice aa ll cc]) x k], K (.returned (.agg #[.bool g, .slice a l c, .slice aa ll cc])) w') : Calls P f args w K := by
  refine h.mono ?_
  rintro e w' ⟨g, a, l, c, aa, ll, cc, rfl, hx, hb⟩
  exact @hK w' ⟨hb⟩ g a l c aa ll cc hx
theorem CQRet.fin {w w' : World} {g : Bool} {a : Option Addr} {l : Nat} {c : Nat} {aa : Option Addr} {ll : Nat} {cc : Nat} {x x' : Rat} {kx : Nat} {k : Nat} [b : Kp w w'] [hx : CQ w' (.agg #[.bool g, .slice a l c, .slice aa ll cc]) x kx] (ex : x = x') (mx : kx ≤ k) : CQRet w x' k (.returned (.agg #[.bool g, .slice a l c, .slice aa ll cc])) w' :=
  ⟨_, _, _, _, _, _, _, rfl, hx.cast ex mx, b.out⟩
/-- A value of the kind A is returned; nothing that was there has changed. -/
def CARet (w : World) (x : Rat) (k : Nat) (e : Ending) (w' : World) : Prop := ∃ g a l c aa ll cc, e = .returned (.agg #[.bool g, .slice a l c, .slice aa ll cc]) ∧ CA w' (.agg #[.bool g, .slice a l c, .slice aa ll cc]) x k ∧ Below w.heap.size w w'
theorem Calls.cA {P : Program} {f : FuncId} {args : Array Value} {w : World} {x : Rat} {k : Nat} {K : Ending → World → Prop} (h : Calls P f args w (CARet w x k))
    (hK : ∀ w' [Kp1 w w'] (g : Bool) (a : Option Addr) (l : Nat) (c : Nat) (aa : Option Addr) (ll : Nat) (cc : Nat) [CA w' (.agg #[.bool g, .slice a l c, .slice aa ll cc]) x k], K (.returned (.agg #[.bool g, .slice a l c, .slice aa ll cc])) w') : Calls P f args w K := by
  refine h.mono ?_
  rintro e w' ⟨g, a, l, c, aa, ll, cc, rfl, hx, hb⟩
  exact @hK w' ⟨hb⟩ g a l c aa ll cc hx
theorem CARet.fin {w w' : World} {g : Bool} {a : Option Addr} {l : Nat} {c : Nat} {aa : Option Addr} {ll : Nat} {cc : Nat} {x x' : Rat} {kx : Nat} {k : Nat} [b : Kp w w'] [hx : CA w' (.agg #[.bool g, .slice a l c, .slice aa ll cc]) x kx] (ex : x = x') (mx : kx ≤ k) : CARet w x' k (.returned (.agg #[.bool g, .slice a l c, .slice aa ll cc])) w' :=
  ⟨_, _, _, _, _, _, _, rfl, hx.cast ex mx, b.out⟩
/-- A value of the kind F is returned; nothing that was there has changed. -/
def CFRet (w : World) (x : Rat) (k : Nat) (e : Ending) (w' : World) : Prop := ∃ n d p, e = .returned (.agg #[.int .i64 n, .int .i64 d, .pointer p]) ∧ CF w' (.agg #[.int .i64 n, .int .i64 d, .pointer p]) x k ∧ Below w.heap.size w w'
theorem Calls.cF {P : Program} {f : FuncId} {args : Array Value} {w : World} {x : Rat} {k : Nat} {K : Ending → World → Prop} (h : Calls P f args w (CFRet w x k))
    (hK : ∀ w' [Kp1 w w'] (n : Int) (d : Int) (p : Option Addr) [CF w' (.agg #[.int .i64 n, .int .i64 d, .pointer p]) x k], K (.returned (.agg #[.int .i64 n, .int .i64 d, .pointer p])) w') : Calls P f args w K := by
  refine h.mono ?_
  rintro e w' ⟨n, d, p, rfl, hx, hb⟩
  exact @hK w' ⟨hb⟩ n d p hx
theorem CFRet.fin {w w' : World} {n : Int} {d : Int} {p : Option Addr} {x x' : Rat} {kx : Nat} {k : Nat} [b : Kp w w'] [hx : CF w' (.agg #[.int .i64 n, .int .i64 d, .pointer p]) x kx] (ex : x = x') (mx : kx ≤ k) : CFRet w x' k (.returned (.agg #[.int .i64 n, .int .i64 d, .pointer p])) w' :=
  ⟨_, _, _, rfl, hx.cast ex mx, b.out⟩
/-- A value of the kind PQ is returned; nothing that was there has changed. -/
def CPQRet (w : World) (x y : Rat) (k : Nat) (e : Ending) (w' : World) : Prop := ∃ gx ax lx cx aax llx ccx gy ay ly cy aay lly ccy, e = .returned (.agg #[.bool gx, .slice ax lx cx, .slice aax llx ccx, .bool gy, .slice ay ly cy, .slice aay lly ccy]) ∧ CQ w' (.agg #[.bool gx, .slice ax lx cx, .slice aax llx ccx]) x k ∧ CQ w' (.agg #[.bool gy, .slice ay ly cy, .slice aay lly ccy]) y k ∧ Below w.heap.size w w'
theorem Calls.cPQ {P : Program} {f : FuncId} {args : Array Value} {w : World} {x y : Rat} {k : Nat} {K : Ending → World → Prop} (h : Calls P f args w (CPQRet w x y k))
    (hK : ∀ w' [Kp1 w w'] (gx : Bool) (ax : Option Addr) (lx : Nat) (cx : Nat) (aax : Option Addr) (llx : Nat) (ccx : Nat) (gy : Bool) (ay : Option Addr) (ly : Nat) (cy : Nat) (aay : Option Addr) (lly : Nat) (ccy : Nat) [CQ w' (.agg #[.bool gx, .slice ax lx cx, .slice aax llx ccx]) x k] [CQ w' (.agg #[.bool gy, .slice ay ly cy, .slice aay lly ccy]) y k], K (.returned (.agg #[.bool gx, .slice ax lx cx, .slice aax llx ccx, .bool gy, .slice ay ly cy, .slice aay lly ccy])) w') : Calls P f args w K := by
  refine h.mono ?_
  rintro e w' ⟨gx, ax, lx, cx, aax, llx, ccx, gy, ay, ly, cy, aay, lly, ccy, rfl, hx, hy, hb⟩
  exact @hK w' ⟨hb⟩ gx ax lx cx aax llx ccx gy ay ly cy aay lly ccy hx hy
theorem CPQRet.fin {w w' : World} {gx : Bool} {ax : Option Addr} {lx : Nat} {cx : Nat} {aax : Option Addr} {llx : Nat} {ccx : Nat} {gy : Bool} {ay : Option Addr} {ly : Nat} {cy : Nat} {aay : Option Addr} {lly : Nat} {ccy : Nat} {x x' : Rat} {kx : Nat} {y y' : Rat} {ky : Nat} {k : Nat} [b : Kp w w'] [hx : CQ w' (.agg #[.bool gx, .slice ax lx cx, .slice aax llx ccx]) x kx] [hy : CQ w' (.agg #[.bool gy, .slice ay ly cy, .slice aay lly ccy]) y ky] (ex : x = x') (mx : kx ≤ k) (ey : y = y') (my : ky ≤ k) : CPQRet w x' y' k (.returned (.agg #[.bool gx, .slice ax lx cx, .slice aax llx ccx, .bool gy, .slice ay ly cy, .slice aay lly ccy])) w' :=
  ⟨_, _, _, _, _, _, _, _, _, _, _, _, _, _, rfl, hx.cast ex mx, hy.cast ey my, b.out⟩
/-- A value of the kind PA is returned; nothing that was there has changed. -/
def CPARet (w : World) (x y : Rat) (k : Nat) (e : Ending) (w' : World) : Prop := ∃ gx ax lx cx aax llx ccx gy ay ly cy aay lly ccy, e = .returned (.agg #[.bool gx, .slice ax lx cx, .slice aax llx ccx, .bool gy, .slice ay ly cy, .slice aay lly ccy]) ∧ CA w' (.agg #[.bool gx, .slice ax lx cx, .slice aax llx ccx]) x k ∧ CA w' (.agg #[.bool gy, .slice ay ly cy, .slice aay lly ccy]) y k ∧ Below w.heap.size w w'
theorem Calls.cPA {P : Program} {f : FuncId} {args : Array Value} {w : World} {x y : Rat} {k : Nat} {K : Ending → World → Prop} (h : Calls P f args w (CPARet w x y k))
    (hK : ∀ w' [Kp1 w w'] (gx : Bool) (ax : Option Addr) (lx : Nat) (cx : Nat) (aax : Option Addr) (llx : Nat) (ccx : Nat) (gy : Bool) (ay : Option Addr) (ly : Nat) (cy : Nat) (aay : Option Addr) (lly : Nat) (ccy : Nat) [CA w' (.agg #[.bool gx, .slice ax lx cx, .slice aax llx ccx]) x k] [CA w' (.agg #[.bool gy, .slice ay ly cy, .slice aay lly ccy]) y k], K (.returned (.agg #[.bool gx, .slice ax lx cx, .slice aax llx ccx, .bool gy, .slice ay ly cy, .slice aay lly ccy])) w') : Calls P f args w K := by
  refine h.mono ?_
  rintro e w' ⟨gx, ax, lx, cx, aax, llx, ccx, gy, ay, ly, cy, aay, lly, ccy, rfl, hx, hy, hb⟩
  exact @hK w' ⟨hb⟩ gx ax lx cx aax llx ccx gy ay ly cy aay lly ccy hx hy
theorem CPARet.fin {w w' : World} {gx : Bool} {ax : Option Addr} {lx : Nat} {cx : Nat} {aax : Option Addr} {llx : Nat} {ccx : Nat} {gy : Bool} {ay : Option Addr} {ly : Nat} {cy : Nat} {aay : Option Addr} {lly : Nat} {ccy : Nat} {x x' : Rat} {kx : Nat} {y y' : Rat} {ky : Nat} {k : Nat} [b : Kp w w'] [hx : CA w' (.agg #[.bool gx, .slice ax lx cx, .slice aax llx ccx]) x kx] [hy : CA w' (.agg #[.bool gy, .slice ay ly cy, .slice aay lly ccy]) y ky] (ex : x = x') (mx : kx ≤ k) (ey : y = y') (my : ky ≤ k) : CPARet w x' y' k (.returned (.agg #[.bool gx, .slice ax lx cx, .slice aax llx ccx, .bool gy, .slice ay ly cy, .slice aay lly ccy])) w' :=
  ⟨_, _, _, _, _, _, _, _, _, _, _, _, _, _, rfl, hx.cast ex mx, hy.cast ey my, b.out⟩
/-- A value of the kind PF is returned; nothing that was there has changed. -/
def CPFRet (w : World) (x y : Rat) (k : Nat) (e : Ending) (w' : World) : Prop := ∃ nx dx px ny dy py, e = .returned (.agg #[.int .i64 nx, .int .i64 dx, .pointer px, .int .i64 ny, .int .i64 dy, .pointer py]) ∧ CF w' (.agg #[.int .i64 nx, .int .i64 dx, .pointer px]) x k ∧ CF w' (.agg #[.int .i64 ny, .int .i64 dy, .pointer py]) y k ∧ Below w.heap.size w w'
theorem Calls.cPF {P : Program} {f : FuncId} {args : Array Value} {w : World} {x y : Rat} {k : Nat} {K : Ending → World → Prop} (h : Calls P f args w (CPFRet w x y k))
    (hK : ∀ w' [Kp1 w w'] (nx : Int) (dx : Int) (px : Option Addr) (ny : Int) (dy : Int) (py : Option Addr) [CF w' (.agg #[.int .i64 nx, .int .i64 dx, .pointer px]) x k] [CF w' (.agg #[.int .i64 ny, .int .i64 dy, .pointer py]) y k], K (.returned (.agg #[.int .i64 nx, .int .i64 dx, .pointer px, .int .i64 ny, .int .i64 dy, .pointer py])) w') : Calls P f args w K := by
  refine h.mono ?_
  rintro e w' ⟨nx, dx, px, ny, dy, py, rfl, hx, hy, hb⟩
  exact @hK w' ⟨hb⟩ nx dx px ny dy py hx hy
theorem CPFRet.fin {w w' : World} {nx : Int} {dx : Int} {px : Option Addr} {ny : Int} {dy : Int} {py : Option Addr} {x x' : Rat} {kx : Nat} {y y' : Rat} {ky : Nat} {k : Nat} [b : Kp w w'] [hx : CF w' (.agg #[.int .i64 nx, .int .i64 dx, .pointer px]) x kx] [hy : CF w' (.agg #[.int .i64 ny, .int .i64 dy, .pointer py]) y ky] (ex : x = x') (mx : kx ≤ k) (ey : y = y') (my : ky ≤ k) : CPFRet w x' y' k (.returned (.agg #[.int .i64 nx, .int .i64 dx, .pointer px, .int .i64 ny, .int .i64 dy, .pointer py])) w' :=
  ⟨_, _, _, _, _, _, rfl, hx.cast ex mx, hy.cast ey my, b.out⟩
/-- A value of the kind LZ is returned; nothing that was there has changed. -/
def CLZRet (w : World) (x y z : Int) (k : Nat) (e : Ending) (w' : World) : Prop := ∃ gx ax lx cx gy ay ly cy gz az lz cz, e = .returned (.agg #[.bool gx, .slice ax lx cx, .bool gy, .slice ay ly cy, .bool gz, .slice az lz cz]) ∧ CZ w' (.agg #[.bool gx, .slice ax lx cx]) x k ∧ CZ w' (.agg #[.bool gy, .slice ay ly cy]) y k ∧ CZ w' (.agg #[.bool gz, .slice az lz cz]) z k ∧ Below w.heap.size w w'
theorem Calls.cLZ {P : Program} {f : FuncId} {args : Array Value} {w : World} {x y z : Int} {k : Nat} {K : Ending → World → Prop} (h : Calls P f args w (CLZRet w x y z k))
    (hK : ∀ w' [Kp1 w w'] (gx : Bool) (ax : Option Addr) (lx : Nat) (cx : Nat) (gy : Bool) (ay : Option Addr) (ly : Nat) (cy : Nat) (gz : Bool) (az : Option Addr) (lz : Nat) (cz : Nat) [CZ w' (.agg #[.bool gx, .slice ax lx cx]) x k] [CZ w' (.agg #[.bool gy, .slice ay ly cy]) y k] [CZ w' (.agg #[.bool gz, .slice az lz cz]) z k], K (.returned (.agg #[.bool gx, .slice ax lx cx, .bool gy, .slice ay ly cy, .bool gz, .slice az lz cz])) w') : Calls P f args w K := by
  refine h.mono ?_
  rintro e w' ⟨gx, ax, lx, cx, gy, ay, ly, cy, gz, az, lz, cz, rfl, hx, hy, hz, hb⟩
  exact @hK w' ⟨hb⟩ gx ax lx cx gy ay ly cy gz az lz cz hx hy hz
theorem CLZRet.fin {w w' : World} {gx : Bool} {ax : Option Addr} {lx : Nat} {cx : Nat} {gy : Bool} {ay : Option Addr} {ly : Nat} {cy : Nat} {gz : Bool} {az : Option Addr} {lz : Nat} {cz : Nat} {x x' : Int} {kx : Nat} {y y' : Int} {ky : Nat} {z z' : Int} {kz : Nat} {k : Nat} [b : Kp w w'] [hx : CZ w' (.agg #[.bool gx, .slice ax lx cx]) x kx] [hy : CZ w' (.agg #[.bool gy, .slice ay ly cy]) y ky] [hz : CZ w' (.agg #[.bool gz, .slice az lz cz]) z kz] (ex : x = x') (mx : kx ≤ k) (ey : y = y') (my : ky ≤ k) (ez : z = z') (mz : kz ≤ k) : CLZRet w x' y' z' k (.returned (.agg #[.bool gx, .slice ax lx cx, .bool gy, .slice ay ly cy, .bool gz, .slice az lz cz])) w' :=
  ⟨_, _, _, _, _, _, _, _, _, _, _, _, rfl, hx.cast ex mx, hy.cast ey my, hz.cast ez mz, b.out⟩
/-- A value of the kind LF is returned; nothing that was there has changed. -/
def CLFRet (w : World) (x y z : Rat) (k : Nat) (e : Ending) (w' : World) : Prop := ∃ nx dx px ny dy py nz dz pz, e = .returned (.agg #[.int .i64 nx, .int .i64 dx, .pointer px, .int .i64 ny, .int .i64 dy, .pointer py, .int .i64 nz, .int .i64 dz, .pointer pz]) ∧ CF w' (.agg #[.int .i64 nx, .int .i64 dx, .pointer px]) x k ∧ CF w' (.agg #[.int .i64 ny, .int .i64 dy, .pointer py]) y k ∧ CF w' (.agg #[.int .i64 nz, .int .i64 dz, .pointer pz]) z k ∧ Below w.heap.size w w'
theorem Calls.cLF {P : Program} {f : FuncId} {args : Array Value} {w : World} {x y z : Rat} {k : Nat} {K : Ending → World → Prop} (h : Calls P f args w (CLFRet w x y z k))
    (hK : ∀ w' [Kp1 w w'] (nx : Int) (dx : Int) (px : Option Addr) (ny : Int) (dy : Int) (py : Option Addr) (nz : Int) (dz : Int) (pz : Option Addr) [CF w' (.agg #[.int .i64 nx, .int .i64 dx, .pointer px]) x k] [CF w' (.agg #[.int .i64 ny, .int .i64 dy, .pointer py]) y k] [CF w' (.agg #[.int .i64 nz, .int .i64 dz, .pointer pz]) z k], K (.returned (.agg #[.int .i64 nx, .int .i64 dx, .pointer px, .int .i64 ny, .int .i64 dy, .pointer py, .int .i64 nz, .int .i64 dz, .pointer pz])) w') : Calls P f args w K := by
  refine h.mono ?_
  rintro e w' ⟨nx, dx, px, ny, dy, py, nz, dz, pz, rfl, hx, hy, hz, hb⟩
  exact @hK w' ⟨hb⟩ nx dx px ny dy py nz dz pz hx hy hz
theorem CLFRet.fin {w w' : World} {nx : Int} {dx : Int} {px : Option Addr} {ny : Int} {dy : Int} {py : Option Addr} {nz : Int} {dz : Int} {pz : Option Addr} {x x' : Rat} {kx : Nat} {y y' : Rat} {ky : Nat} {z z' : Rat} {kz : Nat} {k : Nat} [b : Kp w w'] [hx : CF w' (.agg #[.int .i64 nx, .int .i64 dx, .pointer px]) x kx] [hy : CF w' (.agg #[.int .i64 ny, .int .i64 dy, .pointer py]) y ky] [hz : CF w' (.agg #[.int .i64 nz, .int .i64 dz, .pointer pz]) z kz] (ex : x = x') (mx : kx ≤ k) (ey : y = y') (my : ky ≤ k) (ez : z = z') (mz : kz ≤ k) : CLFRet w x' y' z' k (.returned (.agg #[.int .i64 nx, .int .i64 dx, .pointer px, .int .i64 ny, .int .i64 dy, .pointer py, .int .i64 nz, .int .i64 dz, .pointer pz])) w' :=
  ⟨_, _, _, _, _, _, _, _, _, rfl, hx.cast ex mx, hy.cast ey my, hz.cast ez mz, b.out⟩
theorem agg3 {g g' : Bool} {a a' aa aa' : Option Addr} {l l' c c' ll ll' cc cc' : Nat} (e : Value.agg #[.bool g, .slice a l c, .slice aa ll cc] = .agg #[.bool g', .slice a' l' c', .slice aa' ll' cc']) :
    g' = g ∧ Value.slice a' l' c' = .slice a l c ∧ Value.slice aa' ll' cc' = .slice aa ll cc := by
  simp only [Value.agg.injEq, Array.mk.injEq, List.cons.injEq, Value.bool.injEq, and_true] at e
  exact ⟨e.1.symm, e.2.1.symm, e.2.2.symm⟩
theorem CQ.num {W : World} {g : Bool} {a aa : Option Addr} {l c ll cc : Nat} {q : Rat} {k : Nat} (h : CQ W (.agg #[.bool g, .slice a l c, .slice aa ll cc]) q k) : CZ W (.agg #[.bool g, .slice a l c]) q.num k := by
  obtain ⟨g', a', l', c', aa', ll', cc', e, h1, h2⟩ := h.out
  obtain ⟨rfl, e1, e2⟩ := agg3 e
  exact ⟨⟨_, _, _, _, rfl, by rw [← e1]; exact h1⟩⟩
theorem CQ.den {W : World} {g : Bool} {a aa : Option Addr} {l c ll cc : Nat} {q : Rat} {k : Nat} (h : CQ W (.agg #[.bool g, .slice a l c, .slice aa ll cc]) q k) : CN W (.slice aa ll cc) (if q.den = 1 then 0 else q.den) k := by
  obtain ⟨g', a', l', c', aa', ll', cc', e, h1, h2⟩ := h.out
  obtain ⟨rfl, e1, e2⟩ := agg3 e
  exact ⟨by rw [← e2]; exact h2⟩
theorem CA.num {W : World} {g : Bool} {a aa : Option Addr} {l c ll cc : Nat} {q : Rat} {k : Nat} (h : CA W (.agg #[.bool g, .slice a l c, .slice aa ll cc]) q k) : CZ W (.agg #[.bool g, .slice a l c]) q.num k := by
  obtain ⟨g', a', l', c', aa', ll', cc', e, h1, h2⟩ := h.out
  obtain ⟨rfl, e1, e2⟩ := agg3 e
  exact ⟨⟨_, _, _, _, rfl, by rw [← e1]; exact h1⟩⟩
theorem CA.den {W : World} {g : Bool} {a aa : Option Addr} {l c ll cc : Nat} {q : Rat} {k : Nat} (h : CA W (.agg #[.bool g, .slice a l c, .slice aa ll cc]) q k) : CN W (.slice aa ll cc) q.den k := by
  obtain ⟨g', a', l', c', aa', ll', cc', e, h1, h2⟩ := h.out
  obtain ⟨rfl, e1, e2⟩ := agg3 e
  exact ⟨by rw [← e2]; exact h2⟩
theorem CW.parts {W : World} {g : Bool} {a aa : Option Addr} {l c ll cc : Nat} {q : Rat} {k : Nat} (h : CW W (.agg #[.bool g, .slice a l c, .slice aa ll cc]) q k) : ∃ x n, q = mkRat x n ∧ CI W (.agg #[.bool g, .slice a l c]) x k ∧ CR W (.slice aa ll cc) n k := by
  obtain ⟨g', a', l', c', aa', ll', cc', m, n, e, h1, h2, h3⟩ := h.out
  obtain ⟨rfl, e1, e2⟩ := agg3 e
  exact ⟨_, n, h3, ⟨⟨_, _, _, _, rfl, m, by rw [← e1]; exact h1, rfl⟩⟩, ⟨by rw [← e2]; exact h2⟩⟩
/-- A number of the reference, made of its parts. -/
theorem CQ.mk' {W : World} {g : Bool} {a aa : Option Addr} {l c ll cc : Nat} {z : Int} {n : Nat} {q : Rat} {k1 k2 k : Nat} [h1 : CZ W (.agg #[.bool g, .slice a l c]) z k1] [h2 : CN W (.slice aa ll cc) n k2] (e1 : z = q.num) (e2 : n = if q.den = 1 then 0 else q.den) (b1 : k1 ≤ k) (b2 : k2 ≤ k) :
    CQ W (.agg #[.bool g, .slice a l c, .slice aa ll cc]) q k := by
  subst e1
  have h := zz_of h1
  exact ⟨⟨_, _, _, _, _, _, _, rfl, ⟨h.1, h.2.mono b1⟩, by rw [← e2]; exact h2.out.mono b2⟩⟩
theorem CA.mk' {W : World} {g : Bool} {a aa : Option Addr} {l c ll cc : Nat} {z : Int} {n : Nat} {q : Rat} {k1 k2 k : Nat} [h1 : CZ W (.agg #[.bool g, .slice a l c]) z k1] [h2 : CN W (.slice aa ll cc) n k2] (e1 : z = q.num) (e2 : n = q.den) (b1 : k1 ≤ k) (b2 : k2 ≤ k) :
    CA W (.agg #[.bool g, .slice a l c, .slice aa ll cc]) q k := by
  subst e1
  have h := zz_of h1
  exact ⟨⟨_, _, _, _, _, _, _, rfl, ⟨h.1, h.2.mono b1⟩, by rw [← e2]; exact h2.out.mono b2⟩⟩
instance (priority := low) CQ.int {W : World} {g : Bool} {a : Option Addr} {l c : Nat} {z : Int} {k : Nat} [h : CZ W (.agg #[.bool g, .slice a l c]) z k] : CQ W (.agg #[.bool g, .slice a l c, .slice none 0 0]) (z : Rat) k :=
  CQ.mk' (k2 := 0) (by simp) (by simp) (Nat.le_refl _) (Nat.zero_le _)
theorem CW.of {W : World} {v : Value} {q : Rat} {k : Nat} (h : CA W v q k) : CW W v q k := by
  obtain ⟨g, a, l, c, aa, ll, cc, rfl, ⟨h1, h2⟩, h3⟩ := h.out
  refine ⟨⟨g, a, l, c, aa, ll, cc, _, _, rfl, h2.rr, h3.rr, ?_⟩⟩
  rw [h1, sgn_of, Rat.mkRat_self]
instance CW.ofA {W : World} {v : Value} {q : Rat} {k : Nat} [h : CA W v q k] : CW W v q k := CW.of h
instance (priority := low) CW.mk' {W : World} {g : Bool} {a aa : Option Addr} {l c ll cc : Nat} {z : Int} {n k1 k2 : Nat} [h1 : CI W (.agg #[.bool g, .slice a l c]) z k1] [h2 : CR W (.slice aa ll cc) n k2] :
    CW W (.agg #[.bool g, .slice a l c, .slice aa ll cc]) (mkRat z n) (max k1 k2) := by
  obtain ⟨m, h, e⟩ := zi_of h1
  exact ⟨⟨_, _, _, _, _, _, _, m, n, rfl, h.mono (Nat.le_max_left _ _), h2.out.mono (Nat.le_max_right _ _), by rw [e]⟩⟩
/-- A small number of package frac. -/
theorem CF.small {W : World} {n d : Int} {q : Rat} {k : Nat} (e1 : q.num = n) (e2 : (q.den : Int) = d + 1) (b1 : -4611686018427387904 < n) (b2 : n < 4611686018427387904) (b3 : d + 1 < 4611686018427387904) (hk : 2 ≤ k) :
    CF W (.agg #[.int .i64 n, .int .i64 d, .pointer none]) q k := by
  subst e1
  refine ⟨.inl ⟨?_, b1, b2, by omega, hk⟩⟩
  rw [show (q.den : Int) - 1 = d by omega]
theorem CF.big {W : World} {b : Nat} {g : Bool} {a aa : Option Addr} {l c ll cc : Nat} {z : Int} {n : Nat} {q : Rat} {k1 k2 k : Nat} [h : Bx W b 300 [.bool g, .slice a l c, .slice aa ll cc]] [h1 : CZ W (.agg #[.bool g, .slice a l c]) z k1] [h2 : CN W (.slice aa ll cc) n k2]
    (e1 : z = q.num) (e2 : n = q.den) (hq : q ≠ 0) (b1 : k1 ≤ k) (b2 : k2 ≤ k) : CF W (.agg #[.int .i64 0, .int .i64 0, .pointer (some ⟨b, 0, none⟩)]) q k := by
  subst e1
  have h3 := zz_of h1
  exact ⟨.inr ⟨b, g, a, l, c, aa, ll, cc, rfl, h.out, ⟨h3.1, h3.2.mono b1⟩, by rw [← e2]; exact h2.out.mono b2, hq⟩⟩
/-- The two forms of a number of package frac. -/
theorem CF.cases {W : World} {n d : Int} {p : Option Addr} {q : Rat} {k : Nat} (h : CF W (.agg #[.int .i64 n, .int .i64 d, .pointer p]) q k) :
    (p = none ∧ q.num = n ∧ (q.den : Int) = d + 1 ∧ -4611686018427387904 < n ∧ n < 4611686018427387904 ∧ 0 ≤ d ∧ d < 4611686018427387903 ∧ 2 ≤ k) ∨
    (n = 0 ∧ d = 0 ∧ q ≠ 0 ∧ ∃ b g a l c aa ll cc, p = some ⟨b, 0, none⟩ ∧ Bx W b 300 [.bool g, .slice a l c, .slice aa ll cc] ∧ CZ W (.agg #[.bool g, .slice a l c]) q.num k ∧ CN W (.slice aa ll cc) q.den k) := by
  rcases h.out with ⟨e, h1, h2, h3, h4⟩ | ⟨b, g, a, l, c, aa, ll, cc, e, h0, h1, h2, h3⟩
  · left
    simp only [Value.agg.injEq, Array.mk.injEq, List.cons.injEq, Value.int.injEq, Value.pointer.injEq, true_and, and_true] at e
    obtain ⟨e1, e2, e3⟩ := e
    have := den_pos' q
    subst e1
    exact ⟨e3, rfl, by omega, h1, h2, by omega, by omega, h4⟩
  · right
    simp only [Value.agg.injEq, Array.mk.injEq, List.cons.injEq, Value.int.injEq, Value.pointer.injEq, true_and, and_true] at e
    obtain ⟨e1, e2, e3⟩ := e
    exact ⟨e1, e2, h3, b, g, a, l, c, aa, ll, cc, e3, ⟨h0⟩, ⟨⟨_, _, _, _, rfl, h1⟩⟩, ⟨h2⟩⟩
end Go.Proofs.YtdlnoeegboapkaaGreatDoor

/- Machine words of package frac: the absolute value, the greatest common divisor, the product that is refused where it is too great. -/
namespace Go.Proofs.YtdlnoeegboapkaaGreatDoor
theorem gcd_step' {p q g : Nat} (hq : q ≠ 0) (h : Nat.gcd p q = g) : Nat.gcd q (p % q) = g ∧ p % q < q := by
  refine ⟨?_, Nat.mod_lt _ (by omega)⟩
  rw [← h, Nat.gcd_comm p q, Nat.gcd_rec q p, Nat.gcd_comm]
open Go.RowKit
set_option maxRecDepth 100000
set_option maxHeartbeats 40000000
set_option synthInstance.maxSize 100000
set_option synthInstance.maxHeartbeats 1000000
theorem absX {w : World} {x : Int} (b1 : -4611686018427387904 < x) (b2 : x < 4611686018427387904) :
    Calls Tryz.prog 270 #[.int .i64 x] w (fun e w' => e = .returned (.int .u64 (x.natAbs : Int)) ∧ w = w') := by
  by_cases h : x < 0
  · have e : ((x.natAbs : Nat) : Int) = -x := by omega
    rw [e]
    clear e
    have h1 : 0 ≤ -x := by omega
    have h2 : -x < 4611686018427387904 := by omega
    go_enter Tryz.func270, Tryz.ntmps270
    go_wp2
    go_ret
    exact ⟨rfl, rfl⟩
  · have e : ((x.natAbs : Nat) : Int) = x := by omega
    rw [e]
    clear e
    have h1 : 0 ≤ x := by omega
    go_enter Tryz.func270, Tryz.ntmps270
    go_wp2
    go_ret
    exact ⟨rfl, rfl⟩
theorem mul64X {w : World} {x y : Nat} (hx : x < 18446744073709551616) (hy : y < 18446744073709551616) :
    Calls Tryz.prog 269 #[.int .u64 x, .int .u64 y] w (fun e w' => e = .returned (.tuple #[.int .u64 ((x * y / 18446744073709551616 : Nat) : Int), .int .u64 ((x * y % 18446744073709551616 : Nat) : Int)]) ∧ w = w') := by
  obtain ⟨bd, bt, bw, hhi⟩ := Lib.mul64_hi x y hx hy
  have ba := Lib.half_mul_le (a := x / 4294967296) (b := y / 4294967296) (by omega) (by omega)
  have bb := Lib.half_mul_le (a := x / 4294967296) (b := y % 4294967296) (by omega) (by omega)
  have bc := Lib.half_mul_le (a := x % 4294967296) (b := y / 4294967296) (by omega) (by omega)
  have ba' : x / 4294967296 * (y / 4294967296) < 18446744073709551616 := by omega
  have bb' : x / 4294967296 * (y % 4294967296) < 18446744073709551616 := by omega
  have bc' : x % 4294967296 * (y / 4294967296) < 18446744073709551616 := by omega
  have bh1 : x / 4294967296 * (y / 4294967296) + (x / 4294967296 * (y % 4294967296) + x % 4294967296 * (y % 4294967296) / 4294967296) / 4294967296 < 18446744073709551616 := by omega
  have bh : x / 4294967296 * (y / 4294967296) + (x / 4294967296 * (y % 4294967296) + x % 4294967296 * (y % 4294967296) / 4294967296) / 4294967296 + ((x / 4294967296 * (y % 4294967296) + x % 4294967296 * (y % 4294967296) / 4294967296) % 4294967296 + x % 4294967296 * (y / 4294967296)) / 4294967296 < 18446744073709551616 := by omega
  have HHI := Lib.hid hhi
  clear hhi
  go_enter Tryz.func269, Tryz.ntmps269
  go_wp2
  simp only [Mul64.maskN x hx, Mul64.maskN y hy, Mul64.divN, Mul64.mulN, Mul64.addN, Mul64.wrapN _ bd, Mul64.wrapN _ bb', Mul64.wrapN _ bt, Mul64.maskN _ bt, Mul64.wrapN _ bc', Mul64.wrapN _ bw, Mul64.wrapN _ ba', Mul64.wrapN _ bh1, Mul64.wrapN _ bh, Mul64.wrapM (x * y)]
  rw [HHI.out]
  go_ret2
  exact ⟨rfl, rfl⟩
theorem gcd64X {w : World} {m n : Nat} (hm : m < 18446744073709551616) (hn : n < 18446744073709551616) :
    Calls Tryz.prog 271 #[.int .u64 m, .int .u64 n] w (fun e w' => e = .returned (.int .u64 (Nat.gcd m n : Nat)) ∧ Below w.heap.size w w') := by
  go_enter Tryz.func271, Tryz.ntmps271
  go_wp2_with fail
  go_loopw [0, 1] (fun x y wx => ∃ p q : Nat, x = .int .u64 p ∧ y = .int .u64 q ∧ p < 18446744073709551616 ∧ q < 18446744073709551616 ∧ Hid (Below w.heap.size w wx) ∧ Hid (Nat.gcd p q = Nat.gcd m n)) (fun _ y _ => (intOf y).toNat)
  case atStart => exact ⟨m, n, rfl, rfl, hm, hn, Below.refl _ _, rfl⟩
  case round =>
    obtain ⟨p2, q2, rfl, rfl, hp2, hq2, hW2, hG2⟩ := hrel
    by_cases h0 : q2 = 0
    · have HE : Hid (p2 = Nat.gcd m n) := by show _ = _; rw [← hG2.out, h0, Nat.gcd_zero_right]
      have hb : (((q2 : Nat) : Int) != 0) = false := by rw [h0]; rfl
      clear h0
      go_wp2
      go_ret
      exact ⟨by rw [← HE.out]; rfl, hW2.out⟩
    · obtain ⟨g1, g2⟩ := gcd_step' h0 hG2.out
      have HG := Lib.hid g1
      have HL := Lib.hid g2
      have hb : (((q2 : Nat) : Int) != 0) = true := by rw [bne_iff_ne]; omega
      have hb0 : (((q2 : Nat) : Int) == 0) = false := by rw [beq_eq_false_iff_ne]; omega
      have e2 : (p2 : Int) % (q2 : Int) = ((p2 % q2 : Nat) : Int) := by rw [Int.natCast_emod]
      have E2 := Lib.hid e2
      have HQ1 : Hid ((1 : Int) ≤ (q2 : Int)) := by show _ ≤ _; omega
      have r1 : (0 : Int) ≤ (p2 : Int) % (q2 : Int) := by rw [e2]; exact Int.natCast_nonneg _
      have r2 : (p2 : Int) % (q2 : Int) < 18446744073709551616 := by rw [e2]; omega
      clear g1 g2 e2 h0
      go_wp2_with fail
      clear hb hb0
      have hq1 : (1 : Int) ≤ (q2 : Int) := HQ1.out
      have hq0 : ((q2 : Int) == 0) = false := by rw [beq_eq_false_iff_ne]; omega
      have hqz : ¬ (q2 = 0) := by omega
      go_quiet (fail)
      go_wp2_with fail
      go_roundw
      case rel => rw [E2.out]; exact ⟨q2, p2 % q2, rfl, rfl, hq2, Nat.lt_trans HL.out hq2, blw_drewN hW2.out _, HG⟩
      case measure => rw [E2.out]; have := HL.out; simp [intOf]; omega
theorem gcd64C {w : World} {m n g : Nat} (hm : m < 18446744073709551616) (hn : n < 18446744073709551616) (h : Hid (Nat.gcd m n = g)) :
    Calls Tryz.prog 271 #[.int .u64 m, .int .u64 n] w (fun e w' => e = .returned (.int .u64 (g : Nat)) ∧ Below w.heap.size w w') := by
  have := @gcd64X w m n hm hn
  rw [h.out] at this
  exact this
/-- What times returns. -/
def tOk (a b : Int) : Bool := decide ((a * b).natAbs < 4611686018427387904)
def tVal (a b : Int) : Int := if (a * b).natAbs < 4611686018427387904 then a * b else 0
theorem tVal_ok {a b : Int} (h : (a * b).natAbs < 4611686018427387904) : tVal a b = a * b ∧ tOk a b = true := ⟨if_pos h, by simp [tOk, h]⟩
theorem tVal_no {a b : Int} (h : ¬ (a * b).natAbs < 4611686018427387904) : tVal a b = 0 ∧ tOk a b = false := ⟨if_neg h, by simp [tOk, h]⟩
theorem sg_mul {a b : Int} (h : (decide (a < 0) != decide (b < 0)) = true) : a * b = -((a.natAbs * b.natAbs : Nat) : Int) := by
  rw [Int.natCast_mul]
  by_cases h1 : a < 0 <;> by_cases h2 : b < 0 <;> simp [h1, h2] at h
  · rw [show ((a.natAbs : Nat) : Int) = -a by omega, show ((b.natAbs : Nat) : Int) = b by omega, Int.neg_mul, Int.neg_neg]
  · rw [show ((a.natAbs : Nat) : Int) = a by omega, show ((b.natAbs : Nat) : Int) = -b by omega, Int.mul_neg, Int.neg_neg]
theorem sg_mul2 {a b : Int} (h : (decide (a < 0) != decide (b < 0)) = false) : a * b = ((a.natAbs * b.natAbs : Nat) : Int) := by
  rw [Int.natCast_mul]
  by_cases h1 : a < 0 <;> by_cases h2 : b < 0 <;> simp [h1, h2] at h
  · rw [show ((a.natAbs : Nat) : Int) = -a by omega, show ((b.natAbs : Nat) : Int) = -b by omega, Int.neg_mul_neg]
  · rw [show ((a.natAbs : Nat) : Int) = a by omega, show ((b.natAbs : Nat) : Int) = b by omega]
theorem timesX {w : World} {a b : Int} (a1 : -4611686018427387904 < a) (a2 : a < 4611686018427387904) (b1 : -4611686018427387904 < b) (b2 : b < 4611686018427387904) :
    Calls Tryz.prog 208 #[.int .i64 a, .int .i64 b] w (fun e w' => e = .returned (.tuple #[.int .i64 (tVal a b), .bool (tOk a b)]) ∧ w = w') := by
  have CM := Lib.hid (@mul64X w a.natAbs b.natAbs (by omega) (by omega))
  have CA := Lib.hid (@absX w a a1 a2)
  have CB := Lib.hid (@absX w b b1 b2)
  have EM : (a * b).natAbs = a.natAbs * b.natAbs := Int.natAbs_mul a b
  by_cases h : a.natAbs * b.natAbs < 4611686018427387904
  · obtain ⟨e1, e2⟩ := tVal_ok (a := a) (b := b) (by omega)
    rw [e1, e2]
    have d1 : a.natAbs * b.natAbs / 18446744073709551616 = 0 := by omega
    have d2 : a.natAbs * b.natAbs % 18446744073709551616 = a.natAbs * b.natAbs := by omega
    rw [d1, d2] at CM
    by_cases hs : (decide (a < 0) != decide (b < 0)) = true
    · rw [sg_mul hs]
      have hs2 : (decide (a < 0) == decide (b < 0)) = false := by simpa [bne] using hs
      have hs3 : (!(decide (a < 0) == decide (b < 0))) = true := hs
      clear EM e1 e2 d1 d2
      obtain ⟨M, hM⟩ : ∃ M : Int, M = ((a.natAbs * b.natAbs : Nat) : Int) := ⟨_, rfl⟩
      have m1 : 0 ≤ M := by omega
      have m2 : M < 4611686018427387904 := by omega
      rw [← hM] at CM ⊢
      clear hM h
      go_enter Tryz.func208, Tryz.ntmps208
      go_wp2_with (first | (go_at_call 270; first | ((with_reducible refine CA.out.mono ?_); rintro e w' ⟨rfl, rfl⟩) | ((with_reducible refine CB.out.mono ?_); rintro e w' ⟨rfl, rfl⟩)) | (go_at_call 269; (with_reducible refine CM.out.mono ?_); rintro e w' ⟨rfl, rfl⟩))
      go_ret2
      exact ⟨rfl, rfl⟩
    · have hs' : (decide (a < 0) != decide (b < 0)) = false := by simpa using hs
      rw [sg_mul2 hs']
      have hs2 : (decide (a < 0) == decide (b < 0)) = true := by simpa [bne] using hs'
      have hs3 : (!(decide (a < 0) == decide (b < 0))) = false := hs'
      clear EM e1 e2 d1 d2 hs
      obtain ⟨M, hM⟩ : ∃ M : Int, M = ((a.natAbs * b.natAbs : Nat) : Int) := ⟨_, rfl⟩
      have m1 : 0 ≤ M := by omega
      have m2 : M < 4611686018427387904 := by omega
      rw [← hM] at CM ⊢
      clear hM h
      go_enter Tryz.func208, Tryz.ntmps208
      go_wp2_with (first | (go_at_call 270; first | ((with_reducible refine CA.out.mono ?_); rintro e w' ⟨rfl, rfl⟩) | ((with_reducible refine CB.out.mono ?_); rintro e w' ⟨rfl, rfl⟩)) | (go_at_call 269; (with_reducible refine CM.out.mono ?_); rintro e w' ⟨rfl, rfl⟩))
      go_ret2
      exact ⟨rfl, rfl⟩
  · obtain ⟨e1, e2⟩ := tVal_no (a := a) (b := b) (by omega)
    rw [e1, e2]
    clear EM e1 e2
    by_cases h2 : a.natAbs * b.natAbs < 18446744073709551616
    · have d1 : a.natAbs * b.natAbs / 18446744073709551616 = 0 := by omega
      have d2 : a.natAbs * b.natAbs % 18446744073709551616 = a.natAbs * b.natAbs := by omega
      rw [d1, d2] at CM
      obtain ⟨M, hM⟩ : ∃ M : Int, M = ((a.natAbs * b.natAbs : Nat) : Int) := ⟨_, rfl⟩
      have m1 : 4611686018427387904 ≤ M := by omega
      have m2 : M < 18446744073709551616 := by omega
      rw [← hM] at CM
      clear d1 d2 hM h h2
      go_enter Tryz.func208, Tryz.ntmps208
      go_wp2_with (first | (go_at_call 270; first | ((with_reducible refine CA.out.mono ?_); rintro e w' ⟨rfl, rfl⟩) | ((with_reducible refine CB.out.mono ?_); rintro e w' ⟨rfl, rfl⟩)) | (go_at_call 269; (with_reducible refine CM.out.mono ?_); rintro e w' ⟨rfl, rfl⟩))
      go_ret2
      exact ⟨rfl, rfl⟩
    · have d1 : 0 < a.natAbs * b.natAbs / 18446744073709551616 := by omega
      generalize a.natAbs * b.natAbs / 18446744073709551616 = hi at *
      generalize a.natAbs * b.natAbs % 18446744073709551616 = lo at *
      have d2 : ((hi : Int) != 0) = true := by rw [bne_iff_ne]; omega
      clear h h2
      go_enter Tryz.func208, Tryz.ntmps208
      go_wp2_with (first | (go_at_call 270; first | ((with_reducible refine CA.out.mono ?_); rintro e w' ⟨rfl, rfl⟩) | ((with_reducible refine CB.out.mono ?_); rintro e w' ⟨rfl, rfl⟩)) | (go_at_call 269; (with_reducible refine CM.out.mono ?_); rintro e w' ⟨rfl, rfl⟩))
      go_ret2
      exact ⟨rfl, rfl⟩
end Go.Proofs.YtdlnoeegboapkaaGreatDoor

/- Package frac: contracts of its functions, in terms of rational numbers. printed by a small program (mkfrac.py). -/
namespace Go.Proofs.YtdlnoeegboapkaaGreatDoor
open Go.RowKit
set_option maxRecDepth 100000
set_option maxHeartbeats 40000000
set_option synthInstance.maxSize 100000
set_option synthInstance.maxHeartbeats 1000000

theorem nbits_ge {m : Nat} (hm : m ≠ 0) : 2 ^ (nbits m - 1) ≤ m := by
  rw [nbits_pos hm]
  have hp := nf_len_pos hm
  have hd := dig_get (dig_nf m) ((nf m).length - 1)
  have hl := nf_last m hm
  have hb := blen_ge (x := (nf m).getD ((nf m).length - 1) 0) (by omega) hl
  have h1 := val_take_drop (nf m) ((nf m).length - 1) (by omega)
  rw [val_drop_cons _ ((nf m).length - 1) (by omega), List.drop_eq_nil_of_le (by omega), val_nil, val_nf, Nat.mul_zero, Nat.add_zero] at h1
  generalize (nf m).getD ((nf m).length - 1) 0 = x at *
  generalize (nf m).length - 1 = k at *
  have h3 : (4294967296 : Nat) ^ k = 2 ^ (32 * k) := by rw [Nat.pow_mul]
  rw [show 32 * k + blen x - 1 = 32 * k + (blen x - 1) by omega, Nat.pow_add, ← h3]
  have h4 : 4294967296 ^ k * 2 ^ (blen x - 1) ≤ 4294967296 ^ k * x := Nat.mul_le_mul_left _ hb.2
  omega
theorem nbits_le_iff {m c : Nat} : nbits m ≤ c ↔ m < 2 ^ c := by
  constructor
  · intro h; exact Nat.lt_of_lt_of_le (nbits_lt m) (Nat.pow_le_pow_right (by omega) h)
  · intro h
    rcases Nat.lt_or_ge c (nbits m) with h' | h'
    · have hm : m ≠ 0 := fun e => by subst e; rw [nbits_zero] at h'; omega
      have := Nat.pow_le_pow_right (show 0 < 2 by omega) (show c ≤ nbits m - 1 by omega)
      have := nbits_ge hm
      omega
    · exact h'
theorem nbits62 {m : Nat} : nbits m ≤ 62 ↔ m < 4611686018427387904 := nbits_le_iff
theorem nbits1 {m : Nat} : nbits m ≤ 1 ↔ m < 2 := nbits_le_iff
theorem nbits0 {m : Nat} : nbits m = 0 ↔ m = 0 := by
  have := @nbits_le_iff m 0
  simp at this; omega
theorem sgn_mk {g : Bool} {n m : Nat} (hm : m ≠ 0) (hn : n ≠ 0) : (mkRat (sgn g n) m).num = sgn g (n / Nat.gcd n m) ∧ (mkRat (sgn g n) m).den = m / Nat.gcd n m ∧ mkRat (sgn g n) m ≠ 0 := by
  have h1 := mk_den (sgn g n) hm
  have h2 := mk_abs (sgn g n) hm
  have h3 := mk_neg (sgn g n) hm
  rw [sgn_abs] at h1 h2
  refine ⟨?_, h1, fun e => ?_⟩
  · have hq : 0 < n / Nat.gcd n m := Nat.div_pos (Nat.gcd_le_left _ (Nat.pos_of_ne_zero hn)) (Nat.gcd_pos_of_pos_left _ (Nat.pos_of_ne_zero hn))
    generalize n / Nat.gcd n m = q at *
    generalize (mkRat (sgn g n) m).num = z at *
    cases g
    · simp only [sgn_false] at *; omega
    · simp only [sgn_true] at *; omega
  · rw [mk_eq0 _ hm] at e
    have := sgn_eq0.1 e
    exact hn this
theorem sgn_bd {g : Bool} {n : Nat} (h : n < 4611686018427387904) : -4611686018427387904 < sgn g n ∧ sgn g n < 4611686018427387904 := by
  cases g <;> simp only [sgn_true, sgn_false] <;> omega
theorem CF.zero {W : World} {k : Nat} (hk : 2 ≤ k) : CF W (.agg #[.int .i64 0, .int .i64 0, .pointer none]) 0 k :=
  CF.small (by simp) (by simp) (by omega) (by omega) (by omega) hk
theorem div_le_len {n g k : Nat} (h : (nf n).length ≤ k) : (nf (n / g)).length ≤ k := len_le (Nat.div_le_self _ _) h

theorem reduceC {w : World} {g1 : Bool} {a1 a2 : Option Addr} {l1 c1 l2 c2 m k1 k2 : Nat} {z : Int} [h1 : CI w (.agg #[.bool g1, .slice a1 l1 c1]) z k1] [h2 : CR w (.slice a2 l2 c2) m k2] (b : k1 ≤ 800000 ∧ k2 ≤ 800000) :
    Calls Tryz.prog 182 #[.agg #[.bool g1, .slice a1 l1 c1], .slice a2 l2 c2] w (CFRet w (mkRat z m) (max k1 k2 + 2)) := by
  obtain ⟨n, hz, rfl⟩ := zi_of h1
  have i1 : CR w (.slice a1 l1 c1) n k1 := ⟨hz⟩
  clear hz
  by_cases hm : m = 0
  · subst hm
    rw [Rat.mkRat_zero]
    have e0 : nbits 0 = 0 := rfl
    go_enter Tryz.func182, Tryz.ntmps182
    go_wp2_with (first
    | (go_at_call 133; (with_reducible refine Calls.cS (bitsC (by omega)) ?_); intros))
    refine ret_bx rfl Tryz.underlying147 rfl (by kernel_rfl) rfl rfl rfl ?_
    have := CF.zero (W := w) (k := max k1 k2 + 2) (by omega)
    exact CFRet.fin (hx := CF.zero (by omega)) rfl (Nat.le_refl _)
  by_cases hn : n = 0
  · subst hn
    rw [show sgn g1 0 = 0 by cases g1 <;> rfl, mk_zero]
    have e0 : (((nbits m : Nat) : Int) == 0) = false := nbits_pos' hm
    have e1 : isgn (sgn g1 0) = 0 := by cases g1 <;> rfl
    clear hm
    go_enter Tryz.func182, Tryz.ntmps182
    go_wp2_with (first
    | (go_at_call 133; (with_reducible refine Calls.cS (bitsC (by omega)) ?_); intros)
    | (go_at_call 235; (with_reducible refine Calls.cE (intSignC (by omega)) ?_); intros))
    refine ret_bx rfl Tryz.underlying147 rfl (by kernel_rfl) rfl rfl rfl ?_
    exact CFRet.fin (hx := CF.zero (by omega)) rfl (Nat.le_refl _)
  have HQ := Lib.hid (sgn_mk (g := g1) hm hn)
  have e0 : (((nbits m : Nat) : Int) == 0) = false := nbits_pos' hm
  have e1 : (isgn (sgn g1 n) == 0) = false := by rw [beq_eq_false_iff_ne]; rcases isgn_cases (sgn g1 n) with ⟨h, e⟩ | ⟨h, e⟩ | ⟨h, e⟩ <;> first | omega | exact absurd (sgn_eq0.1 h) hn
  have hg0 : 0 < Nat.gcd n m := Nat.gcd_pos_of_pos_right _ (Nat.pos_of_ne_zero hm)
  have hmp : 0 < m / Nat.gcd n m := Nat.div_pos (Nat.gcd_le_right _ (Nat.pos_of_ne_zero hm)) hg0
  by_cases hg : Nat.gcd n m < 2
  · have hg1 : Nat.gcd n m = 1 := by omega
    have b0 : ((nbits (Nat.gcd n m) : Nat) : Int) ≤ 1 := by have := nbits1.2 hg; omega
    rw [hg1, Nat.div_one, Nat.div_one] at HQ
    rw [hg1, Nat.div_one] at hmp
    clear hg hg1 hm hn hg0
    by_cases hN : n < 4611686018427387904
    · have b1 : ((nbits (n) : Nat) : Int) ≤ 62 := by have := nbits62.2 hN; omega
      by_cases hD : m < 4611686018427387904
      · have b2 : ((nbits (m) : Nat) : Int) ≤ 62 := by have := nbits62.2 hD; omega
        obtain ⟨b3, b4⟩ := sgn_bd (g := g1) hN
        have e1 := int64V_in (x := sgn g1 (n)) ⟨by omega, by omega⟩
        have e2 := uintV_lt (n := m) (by omega)
        have HF : Hid (∀ W : World, CF W (.agg #[.int .i64 (sgn g1 (n)), .int .i64 (((m : Nat) : Int) - 1), .pointer none]) (mkRat (sgn g1 n) m) (max k1 k2 + 2)) := fun W => CF.small HQ.out.1 (by rw [HQ.out.2.1]; omega) b3 b4 (by omega) (by omega)
        clear hN b3 b4
        go_enter Tryz.func182, Tryz.ntmps182
        go_wp2_with (first
        | (go_at_call 133; (with_reducible refine Calls.cS (bitsC (by omega)) ?_); intros)
        | (go_at_call 235; (with_reducible refine Calls.cE (intSignC (by omega)) ?_); intros)
        | (go_at_call 249; (with_reducible refine Calls.cN (gcdC (by omega)) ?_); intros)
        | (go_at_call 250; (with_reducible refine Calls.cDM (divmodC (by omega)) ?_); intros)
        | (go_at_call 251; (with_reducible refine Calls.cE (int64C) ?_); intros)
        | (go_at_call 252; (with_reducible refine Calls.cS (uintC) ?_); intros)
        | (go_at_call 215; (with_reducible refine Calls.cZ (intNormC (by omega)) ?_); intros)
        | (go_at_call 216; (with_reducible refine Calls.cN (normC (by omega)) ?_); intros))
        refine ret_bx rfl Tryz.underlying147 rfl (by kernel_rfl) rfl rfl rfl ?_
        exact CFRet.fin (hx := HF.out _) rfl (by omega)
      · have b2 : 62 < ((nbits (m) : Nat) : Int) := by have := mt nbits62.1 hD; omega
        clear hN hD
        go_enter Tryz.func182, Tryz.ntmps182
        go_wp2_with (first
        | (go_at_call 133; (with_reducible refine Calls.cS (bitsC (by omega)) ?_); intros)
        | (go_at_call 235; (with_reducible refine Calls.cE (intSignC (by omega)) ?_); intros)
        | (go_at_call 249; (with_reducible refine Calls.cN (gcdC (by omega)) ?_); intros)
        | (go_at_call 250; (with_reducible refine Calls.cDM (divmodC (by omega)) ?_); intros)
        | (go_at_call 251; (with_reducible refine Calls.cE (int64C) ?_); intros)
        | (go_at_call 252; (with_reducible refine Calls.cS (uintC) ?_); intros)
        | (go_at_call 215; (with_reducible refine Calls.cZ (intNormC (by omega)) ?_); intros)
        | (go_at_call 216; (with_reducible refine Calls.cN (normC (by omega)) ?_); intros))
        refine ret_bx rfl Tryz.underlying147 rfl (by kernel_rfl) rfl rfl rfl ?_
        exact CFRet.fin (hx := CF.big (k := max k1 k2 + 2) HQ.out.1.symm HQ.out.2.1.symm HQ.out.2.2 (by omega) (by omega)) rfl (by omega)
    · have b1 : 62 < ((nbits (n) : Nat) : Int) := by have := mt nbits62.1 hN; omega
      clear hN
      go_enter Tryz.func182, Tryz.ntmps182
      go_wp2_with (first
      | (go_at_call 133; (with_reducible refine Calls.cS (bitsC (by omega)) ?_); intros)
      | (go_at_call 235; (with_reducible refine Calls.cE (intSignC (by omega)) ?_); intros)
      | (go_at_call 249; (with_reducible refine Calls.cN (gcdC (by omega)) ?_); intros)
      | (go_at_call 250; (with_reducible refine Calls.cDM (divmodC (by omega)) ?_); intros)
      | (go_at_call 251; (with_reducible refine Calls.cE (int64C) ?_); intros)
      | (go_at_call 252; (with_reducible refine Calls.cS (uintC) ?_); intros)
      | (go_at_call 215; (with_reducible refine Calls.cZ (intNormC (by omega)) ?_); intros)
      | (go_at_call 216; (with_reducible refine Calls.cN (normC (by omega)) ?_); intros))
      refine ret_bx rfl Tryz.underlying147 rfl (by kernel_rfl) rfl rfl rfl ?_
      exact CFRet.fin (hx := CF.big (k := max k1 k2 + 2) HQ.out.1.symm HQ.out.2.1.symm HQ.out.2.2 (by omega) (by omega)) rfl (by omega)
  · have b0 : 1 < ((nbits (Nat.gcd n m) : Nat) : Int) := by have := mt nbits1.1 hg; omega
    clear hg hm hn
    by_cases hN : n / Nat.gcd n m < 4611686018427387904
    · have b1 : ((nbits (n / Nat.gcd n m) : Nat) : Int) ≤ 62 := by have := nbits62.2 hN; omega
      by_cases hD : m / Nat.gcd n m < 4611686018427387904
      · have b2 : ((nbits (m / Nat.gcd n m) : Nat) : Int) ≤ 62 := by have := nbits62.2 hD; omega
        obtain ⟨b3, b4⟩ := sgn_bd (g := g1) hN
        have e1 := int64V_in (x := sgn g1 (n / Nat.gcd n m)) ⟨by omega, by omega⟩
        have e2 := uintV_lt (n := m / Nat.gcd n m) (by omega)
        have HF : Hid (∀ W : World, CF W (.agg #[.int .i64 (sgn g1 (n / Nat.gcd n m)), .int .i64 (((m / Nat.gcd n m : Nat) : Int) - 1), .pointer none]) (mkRat (sgn g1 n) m) (max k1 k2 + 2)) := fun W => CF.small HQ.out.1 (by rw [HQ.out.2.1]; omega) b3 b4 (by omega) (by omega)
        clear hN b3 b4
        go_enter Tryz.func182, Tryz.ntmps182
        go_wp2_with (first
        | (go_at_call 133; (with_reducible refine Calls.cS (bitsC (by omega)) ?_); intros)
        | (go_at_call 235; (with_reducible refine Calls.cE (intSignC (by omega)) ?_); intros)
        | (go_at_call 249; (with_reducible refine Calls.cN (gcdC (by omega)) ?_); intros)
        | (go_at_call 250; (with_reducible refine Calls.cDM (divmodC (by omega)) ?_); intros)
        | (go_at_call 251; (with_reducible refine Calls.cE (int64C) ?_); intros)
        | (go_at_call 252; (with_reducible refine Calls.cS (uintC) ?_); intros)
        | (go_at_call 215; (with_reducible refine Calls.cZ (intNormC (by omega)) ?_); intros)
        | (go_at_call 216; (with_reducible refine Calls.cN (normC (by omega)) ?_); intros))
        refine ret_bx rfl Tryz.underlying147 rfl (by kernel_rfl) rfl rfl rfl ?_
        exact CFRet.fin (hx := HF.out _) rfl (by omega)
      · have b2 : 62 < ((nbits (m / Nat.gcd n m) : Nat) : Int) := by have := mt nbits62.1 hD; omega
        clear hN hD
        go_enter Tryz.func182, Tryz.ntmps182
        go_wp2_with (first
        | (go_at_call 133; (with_reducible refine Calls.cS (bitsC (by omega)) ?_); intros)
        | (go_at_call 235; (with_reducible refine Calls.cE (intSignC (by omega)) ?_); intros)
        | (go_at_call 249; (with_reducible refine Calls.cN (gcdC (by omega)) ?_); intros)
        | (go_at_call 250; (with_reducible refine Calls.cDM (divmodC (by omega)) ?_); intros)
        | (go_at_call 251; (with_reducible refine Calls.cE (int64C) ?_); intros)
        | (go_at_call 252; (with_reducible refine Calls.cS (uintC) ?_); intros)
        | (go_at_call 215; (with_reducible refine Calls.cZ (intNormC (by omega)) ?_); intros)
        | (go_at_call 216; (with_reducible refine Calls.cN (normC (by omega)) ?_); intros))
        refine ret_bx rfl Tryz.underlying147 rfl (by kernel_rfl) rfl rfl rfl ?_
        exact CFRet.fin (hx := CF.big (k := max k1 k2 + 2) HQ.out.1.symm HQ.out.2.1.symm HQ.out.2.2 (by omega) (by omega)) rfl (by omega)
    · have b1 : 62 < ((nbits (n / Nat.gcd n m) : Nat) : Int) := by have := mt nbits62.1 hN; omega
      clear hN
      go_enter Tryz.func182, Tryz.ntmps182
      go_wp2_with (first
      | (go_at_call 133; (with_reducible refine Calls.cS (bitsC (by omega)) ?_); intros)
      | (go_at_call 235; (with_reducible refine Calls.cE (intSignC (by omega)) ?_); intros)
      | (go_at_call 249; (with_reducible refine Calls.cN (gcdC (by omega)) ?_); intros)
      | (go_at_call 250; (with_reducible refine Calls.cDM (divmodC (by omega)) ?_); intros)
      | (go_at_call 251; (with_reducible refine Calls.cE (int64C) ?_); intros)
      | (go_at_call 252; (with_reducible refine Calls.cS (uintC) ?_); intros)
      | (go_at_call 215; (with_reducible refine Calls.cZ (intNormC (by omega)) ?_); intros)
      | (go_at_call 216; (with_reducible refine Calls.cN (normC (by omega)) ?_); intros))
      refine ret_bx rfl Tryz.underlying147 rfl (by kernel_rfl) rfl rfl rfl ?_
      exact CFRet.fin (hx := CF.big (k := max k1 k2 + 2) HQ.out.1.symm HQ.out.2.1.symm HQ.out.2.2 (by omega) (by omega)) rfl (by omega)

theorem rNumC {w : World} {n1 d1 : Int} {p1 : Option Addr} {x : Rat} {k1 : Nat} [h1 : CF w (.agg #[.int .i64 n1, .int .i64 d1, .pointer p1]) x k1] (b : k1 ≤ 900000) :
    Calls Tryz.prog 155 #[.agg #[.int .i64 n1, .int .i64 d1, .pointer p1]] w (CZRet w x.num k1) := by
  rcases CF.cases h1 with ⟨rfl, en1, ed1, bn1, bm1, bd1, be1, bk1⟩ | ⟨rfl, rfl, hq1, q1, G1, A1, L1, C1, AA1, LL1, CC1, rfl, hB1, hZ1, hN1⟩
  · have En := Lib.hid en1
    have Ed := Lib.hid ed1
    clear en1 ed1
    go_enter Tryz.func155, Tryz.ntmps155
    go_wp2_with (first
    | (go_at_call 183; (with_reducible refine Calls.cZ (fromIntC (by omega)) ?_); intros))
    refine ret_bx rfl Tryz.underlying27 rfl (by kernel_rfl) rfl rfl rfl ?_
    exact CZRet.fin En.out.symm (by omega)
  · go_enter Tryz.func155, Tryz.ntmps155
    go_wp2_with (first
    | (go_at_call 215; (with_reducible refine Calls.cZ (intNormC (by omega)) ?_); intros))
    refine ret_bx rfl Tryz.underlying27 rfl (by kernel_rfl) rfl rfl rfl ?_
    exact CZRet.fin rfl (by omega)

theorem rDenC {w : World} {n1 d1 : Int} {p1 : Option Addr} {x : Rat} {k1 : Nat} [h1 : CF w (.agg #[.int .i64 n1, .int .i64 d1, .pointer p1]) x k1] (b : k1 ≤ 900000) :
    Calls Tryz.prog 156 #[.agg #[.int .i64 n1, .int .i64 d1, .pointer p1]] w (CNRet w x.den k1) := by
  rcases CF.cases h1 with ⟨rfl, en1, ed1, bn1, bm1, bd1, be1, bk1⟩ | ⟨rfl, rfl, hq1, q1, G1, A1, L1, C1, AA1, LL1, CC1, rfl, hB1, hZ1, hN1⟩
  · have En := Lib.hid en1
    have Ed := Lib.hid ed1
    clear en1 ed1
    go_enter Tryz.func156, Tryz.ntmps156
    go_wp2_with (first
    | (go_at_call 217; (with_reducible refine Calls.cN (fromUintC (by omega)) ?_); intros))
    go_ret
    exact CNRet.fin (by have := Ed.out; omega) (by omega)
  · go_enter Tryz.func156, Tryz.ntmps156
    go_wp2_with (first
    | (go_at_call 216; (with_reducible refine Calls.cN (normC (by omega)) ?_); intros))
    go_ret
    exact CNRet.fin rfl (by omega)

theorem rApiC {w : World} {n1 d1 : Int} {p1 : Option Addr} {x : Rat} {k1 : Nat} [h1 : CF w (.agg #[.int .i64 n1, .int .i64 d1, .pointer p1]) x k1] (b : k1 ≤ 900000) :
    Calls Tryz.prog 92 #[.agg #[.int .i64 n1, .int .i64 d1, .pointer p1]] w (CARet w x k1) := by
  go_enter Tryz.func92, Tryz.ntmps92
  go_wp2_with fail
  refine rgn [w.heap.size + 1] [] fun hHeld => ?_
  refine tk 0 hHeld ?_
  refine tk 2 hHeld ?_
  refine st 1 fun K hK => ?_
  go_simp
  (with_reducible refine Calls.cZ (rNumC (by omega)) ?_); intros
  refine hd hK ?_
  clear hHeld hK K
  intro hHeld
  refine st 3 fun K hK => ?_
  go_simp
  (with_reducible refine Calls.cN (rDenC (by omega)) ?_); intros
  refine hd hK ?_
  clear hHeld hK K
  intro hHeld
  refine tk 4 hHeld ?_
  refine st 5 fun K hK => ?_
  go_simp
  refine hd hK ?_
  clear hHeld hK K
  intro hHeld
  refine dn ?_
  clear hHeld
  go_wp2
  refine ret_bx rfl Tryz.underlying29 rfl (by kernel_rfl) rfl rfl rfl ?_
  exact CARet.fin (hx := CA.mk' rfl rfl (Nat.le_refl _) (Nat.le_refl _)) rfl (Nat.le_refl _)

theorem rNegC {w : World} {n1 d1 : Int} {p1 : Option Addr} {x : Rat} {k1 : Nat} [h1 : CF w (.agg #[.int .i64 n1, .int .i64 d1, .pointer p1]) x k1] (b : k1 ≤ 900000) :
    Calls Tryz.prog 268 #[.agg #[.int .i64 n1, .int .i64 d1, .pointer p1]] w (CFRet w (-x) k1) := by
  rcases CF.cases h1 with ⟨rfl, en1, ed1, bn1, bm1, bd1, be1, bk1⟩ | ⟨rfl, rfl, hq1, q1, G1, A1, L1, C1, AA1, LL1, CC1, rfl, hB1, hZ1, hN1⟩
  · have En := Lib.hid en1
    have Ed := Lib.hid ed1
    clear en1 ed1
    have HF : Hid (∀ W : World, CF W (.agg #[.int .i64 (-n1), .int .i64 d1, .pointer none]) (-x) k1) := fun W => CF.small (by rw [Rat.neg_num, En.out]) (by rw [Rat.neg_den, Ed.out]) (by omega) (by omega) (by omega) (by omega)
    go_enter Tryz.func268, Tryz.ntmps268
    go_wp2
    refine ret_bx rfl Tryz.underlying147 rfl (by kernel_rfl) rfl rfl rfl ?_
    exact CFRet.fin (hx := HF.out _) rfl (by omega)
  · have hq' : -x ≠ 0 := by
      intro e
      rw [← Rat.num_eq_zero, Rat.neg_num] at e
      exact hq1 (Rat.num_eq_zero.1 (by omega))
    go_enter Tryz.func268, Tryz.ntmps268
    go_wp2_with fail
    refine rgn [w.heap.size + 1] [] fun hHeld => ?_
    refine tk 0 hHeld ?_
    refine tk 1 hHeld ?_
    refine tk 2 hHeld ?_
    refine tk 3 hHeld ?_
    refine tk 4 hHeld ?_
    refine tk 6 hHeld ?_
    refine tk 7 hHeld ?_
    refine tk 8 hHeld ?_
    refine tk 9 hHeld ?_
    refine tk 10 hHeld ?_
    refine st 5 fun K hK => ?_
    go_simp
    (with_reducible refine Calls.cZ (intNegC (by omega)) ?_); intros
    refine hd hK ?_
    clear hHeld hK K
    intro hHeld
    refine tk 11 hHeld ?_
    refine st 12 fun K hK => ?_
    go_simp
    refine hd hK ?_
    clear hHeld hK K
    intro hHeld
    refine tk 13 hHeld ?_
    refine st 14 fun K hK => ?_
    go_simp
    refine hd hK ?_
    clear hHeld hK K
    intro hHeld
    refine dn ?_
    clear hHeld
    go_wp2
    refine ret_bx rfl Tryz.underlying147 rfl (by kernel_rfl) rfl rfl rfl ?_
    exact CFRet.fin (hx := CF.big (k := k1) (Rat.neg_num x).symm (Rat.neg_den x).symm hq' (by omega) (by omega)) rfl (by omega)

theorem rSignC {w : World} {n1 d1 : Int} {p1 : Option Addr} {x : Rat} {k1 : Nat} [h1 : CF w (.agg #[.int .i64 n1, .int .i64 d1, .pointer p1]) x k1] (b : k1 ≤ 900000) :
    Calls Tryz.prog 171 #[.agg #[.int .i64 n1, .int .i64 d1, .pointer p1]] w (fun e w' => e = .returned (.int .i64 (isgn x.num)) ∧ Below w.heap.size w w') := by
  rcases CF.cases h1 with ⟨rfl, en1, ed1, bn1, bm1, bd1, be1, bk1⟩ | ⟨rfl, rfl, hq1, q1, G1, A1, L1, C1, AA1, LL1, CC1, rfl, hB1, hZ1, hN1⟩
  · rw [en1]
    clear en1 ed1 h1
    rcases isgn_cases n1 with ⟨h, e⟩ | ⟨h, e⟩ | ⟨h, e⟩ <;> rw [e] <;> clear e
    · go_enter Tryz.func171, Tryz.ntmps171
      go_wp2
      go_ret
      exact E.fin rfl
    · subst h
      go_enter Tryz.func171, Tryz.ntmps171
      go_wp2
      go_ret
      exact E.fin rfl
    · go_enter Tryz.func171, Tryz.ntmps171
      go_wp2
      go_ret
      exact E.fin rfl
  · go_enter Tryz.func171, Tryz.ntmps171
    go_wp2_with (first
    | (go_at_call 235; (with_reducible refine Calls.cE (intSignC (by omega)) ?_); intros))
    go_ret
    exact E.fin rfl

theorem ofC {w : World} {g1 : Bool} {a1 aa1 : Option Addr} {l1 c1 ll1 cc1 k1 : Nat} {x : Rat} [h1 : CW w (.agg #[.bool g1, .slice a1 l1 c1, .slice aa1 ll1 cc1]) x k1] (b : k1 ≤ 700000) :
    Calls Tryz.prog 134 #[.agg #[.bool g1, .slice a1 l1 c1, .slice aa1 ll1 cc1]] w (CFRet w x (k1 + 2)) := by
  obtain ⟨z, m, rfl, i1, i2⟩ := CW.parts h1
  go_enter Tryz.func134, Tryz.ntmps134
  go_wp2_with (first
    | (go_at_call 182; (with_reducible refine Calls.cF (reduceC (by omega)) ?_); intros))
  refine ret_bx rfl Tryz.underlying147 rfl (by kernel_rfl) rfl rfl rfl ?_
  exact CFRet.fin rfl (by omega)

theorem fracIntC {w : World} {n : Int} (b : -9223372036854775808 ≤ n ∧ n < 9223372036854775808) :
    Calls Tryz.prog 121 #[.int .i64 n] w (CFRet w (n : Rat) 4) := by
  obtain ⟨b1, b2⟩ := b
  by_cases h1 : n ≤ -4611686018427387904
  · have HE := Lib.hid (mk_one n)
    go_enter Tryz.func121, Tryz.ntmps121
    go_wp2_with (first
    | (go_at_call 183; (with_reducible refine Calls.cZ (fromIntC (by omega)) ?_); intros)
    | (go_at_call 182; (with_reducible refine Calls.cF (reduceC (by omega)) ?_); intros))
    refine ret_bx rfl Tryz.underlying147 rfl (by kernel_rfl) rfl rfl rfl ?_
    exact CFRet.fin HE.out (by omega)
  · by_cases h2 : 4611686018427387904 ≤ n
    · have HE := Lib.hid (mk_one n)
      have h1' : -4611686018427387904 < n := by omega
      clear h1
      go_enter Tryz.func121, Tryz.ntmps121
      go_wp2_with (first
    | (go_at_call 183; (with_reducible refine Calls.cZ (fromIntC (by omega)) ?_); intros)
    | (go_at_call 182; (with_reducible refine Calls.cF (reduceC (by omega)) ?_); intros))
      refine ret_bx rfl Tryz.underlying147 rfl (by kernel_rfl) rfl rfl rfl ?_
      exact CFRet.fin HE.out (by omega)
    · have HF : Hid (∀ W : World, CF W (.agg #[.int .i64 n, .int .i64 0, .pointer none]) (n : Rat) 4) := fun W => CF.small (by simp) (by simp) (by omega) (by omega) (by omega) (by omega)
      have h1' : -4611686018427387904 < n := by omega
      have h2' : n < 4611686018427387904 := by omega
      clear h1 h2
      go_enter Tryz.func121, Tryz.ntmps121
      go_wp2
      refine ret_bx rfl Tryz.underlying147 rfl (by kernel_rfl) rfl rfl rfl ?_
      exact CFRet.fin (hx := HF.out _) rfl (by omega)

theorem lowestC {w : World} {n d : Int} (b : -4611686018427387904 < n ∧ n < 4611686018427387904 ∧ 0 < d ∧ d < 4611686018427387904) :
    Calls Tryz.prog 209 #[.int .i64 n, .int .i64 d] w (CFRet w (mkRat n d.toNat) 2) := by
  obtain ⟨b1, b2, b3, b4⟩ := b
  obtain ⟨D, rfl⟩ : ∃ D : Nat, d = D := ⟨d.toNat, by omega⟩
  have hD : D ≠ 0 := by omega
  have hg0 : 0 < Nat.gcd n.natAbs D := Nat.gcd_pos_of_pos_right _ (by omega)
  have hgD : Nat.gcd n.natAbs D ≤ D := Nat.gcd_le_right _ (by omega)
  have e1 := mk_num n hD
  have e2 := mk_den n hD
  have d1 := Nat.gcd_dvd_left n.natAbs D
  have d2 := Nat.gcd_dvd_right n.natAbs D
  rw [show ((D : Int)).toNat = D by simp]
  generalize hG : Nat.gcd n.natAbs D = G at *
  have HG := Lib.hid hG
  have hn1 : n.natAbs < 18446744073709551616 := by omega
  have hD2 : D < 4611686018427387904 := by omega
  by_cases hg : G < 2
  · have hG1 : G = 1 := by omega
    subst hG1
    have HF : Hid (∀ W : World, CF W (.agg #[.int .i64 n, .int .i64 ((D : Int) - 1), .pointer none]) (mkRat n D) 2) := fun W => CF.small (by rw [e1]; simp) (by rw [e2]; simp) b1 b2 (by omega) (by omega)
    clear hG e1 e2 d1 d2 hg hg0 hgD b4
    go_enter Tryz.func209, Tryz.ntmps209
    go_wp2_with (first
    | (go_at_call 270; (with_reducible refine Calls.cS (absX (by omega) (by omega)) ?_); intros)
    | (go_at_call 271; (with_reducible refine Calls.cE (gcd64C (by omega) (by omega) HG) ?_); intros))
    refine ret_bx rfl Tryz.underlying147 rfl (by kernel_rfl) rfl rfl rfl ?_
    exact CFRet.fin (hx := HF.out _) rfl (by omega)
  · have t1 : n.tdiv (G : Int) = n / (G : Int) := Int.tdiv_eq_ediv_of_dvd (Int.ofNat_dvd_left.2 d1)
    have t2 := int_div_abs n G d1
    have t3 : n.natAbs / G ≤ n.natAbs := Nat.div_le_self _ _
    have t4 : (D : Int) / (G : Int) = ((D / G : Nat) : Int) := by simp
    have t5 : D / G ≤ D := Nat.div_le_self _ _
    have t6 : 0 < D / G := Nat.div_pos hgD hg0
    have HF : Hid (∀ W : World, CF W (.agg #[.int .i64 (n.tdiv (G : Int)), .int .i64 ((D : Int) / (G : Int) - 1), .pointer none]) (mkRat n D) 2) := fun W => CF.small (by rw [e1, t1]) (by rw [e2, t4]; omega) (by rw [t1]; omega) (by rw [t1]; omega) (by rw [t4]; omega) (by omega)
    have HW : Hid (wrap64 (wrap64 ((D : Int) / (G : Int)) - 1) = (D : Int) / (G : Int) - 1) := by
      show _ = _
      rw [t4, IntWalk.wrap64_in ((D / G : Nat) : Int) (by omega), IntWalk.wrap64_in (((D / G : Nat) : Int) - 1) (by omega)]
    clear t1 t2 t3 t4 t5 t6
    have g1 : 2 ≤ G := by omega
    have g2 : ((G : Int) == 0) = false := by rw [beq_eq_false_iff_ne]; omega
    clear hG e1 e2 d1 d2 hg hg0 b4
    go_enter Tryz.func209, Tryz.ntmps209
    go_wp2_with (first
    | (go_at_call 270; (with_reducible refine Calls.cS (absX (by omega) (by omega)) ?_); intros)
    | (go_at_call 271; (with_reducible refine Calls.cE (gcd64C (by omega) (by omega) HG) ?_); intros))
    go_quiet (fail)
    go_wp2
    refine ret_bx rfl Tryz.underlying147 rfl (by kernel_rfl) rfl rfl rfl ?_
    rw [HW.out]
    exact CFRet.fin (hx := HF.out _) rfl (by omega)

end Go.Proofs.YtdlnoeegboapkaaGreatDoor
