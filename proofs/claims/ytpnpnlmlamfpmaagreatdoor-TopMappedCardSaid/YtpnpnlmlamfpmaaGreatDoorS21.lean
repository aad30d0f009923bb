import Derived.Test.YtpnpnlmlamfpmaaGreatDoorS20
namespace Go.Proofs.YtpnpnlmlamfpmaaGreatDoor
open Go.RowKit
set_option linter.unusedVariables false
set_option maxRecDepth 100000
section
set_option maxHeartbeats 4000000
set_option synthInstance.maxHeartbeats 1000000
set_option synthInstance.maxSize 100000
open Go.RowKit Cel
structure RV where
 n : Int
 d : Int
 p : Option Addr
structure PV where
 x : RV
 y : RV
structure LV where
 x : RV
 y : RV
 z : RV
structure IV where
 u : RV
 v : RV
 nl : Bool
 nh : Bool
structure GW where
 l : LV
 i : IV
class Lk (W : World) (r : LV) (q : outParam LQ) : Prop where
 x : CF W (.agg #[.int .i64 r.x.n, .int .i64 r.x.d, .pointer r.x.p]) q.a 150
 y : CF W (.agg #[.int .i64 r.y.n, .int .i64 r.y.d, .pointer r.y.p]) q.b 150
 z : CF W (.agg #[.int .i64 r.z.n, .int .i64 r.z.d, .pointer r.z.p]) q.c 150
variable {W W2 w w' w0 : World} {o : Obj}
instance Lk.al {v : LV} {q : LQ}  [h : Lk W v q] : Lk (W.alloc o) v q := ⟨by have := h.x; exact ii, by have := h.y; exact ii, by have := h.z; exact ii⟩
instance Lk.dr {v : LV} {q : LQ}   [h : Lk W v q] : Lk W.drew v q := ⟨by have := h.x; exact ii, by have := h.y; exact ii, by have := h.z; exact ii⟩
instance (priority := low) Lk.kp {v : LV} {q : LQ} [kb : Kp1 W W2] [h : Lk W v q] : Lk W2 v q := ⟨by have := h.x; exact ii, by have := h.y; exact ii, by have := h.z; exact ii⟩
instance (priority := low) Lk.apn {v : LV} {q : LQ} [kb : Apn W W2] [h : Lk W v q] : Lk W2 v q := ⟨by have := h.x; exact ii, by have := h.y; exact ii, by have := h.z; exact ii⟩
variable {g ib k qb : Nat}
instance Lk.st {v : LV} {q : LQ} {xv : Value} [kb : SoftB W qb] [h : Lk W v q] : Lk (W.setCell ⟨qb, ib, none⟩ xv) v q := ⟨by have := h.x; exact ii, by have := h.y; exact ii, by have := h.z; exact ii⟩
instance Lk.cx {v : LV} {q : LQ} [h : Lk W v q] : CF W (.agg #[.int .i64 v.x.n, .int .i64 v.x.d, .pointer v.x.p]) q.a 150 := h.x
instance Lk.cy {v : LV} {q : LQ} [h : Lk W v q] : CF W (.agg #[.int .i64 v.y.n, .int .i64 v.y.d, .pointer v.y.p]) q.b 150 := h.y
instance Lk.cz {v : LV} {q : LQ} [h : Lk W v q] : CF W (.agg #[.int .i64 v.z.n, .int .i64 v.z.d, .pointer v.z.p]) q.c 150 := h.z
class Ik (W : World) (r : IV) (q : outParam IQ) : Prop where
 u : CF W (.agg #[.int .i64 r.u.n, .int .i64 r.u.d, .pointer r.u.p]) q.lo 3000
 v : CF W (.agg #[.int .i64 r.v.n, .int .i64 r.v.d, .pointer r.v.p]) q.hi 3000
 nl : r.nl = q.nl
 nh : r.nh = q.nh
variable {q : IQ}
instance Ik.al {v : IV}  [h : Ik W v q] : Ik (W.alloc o) v q := ⟨by have := h.u; exact ii, by have := h.v; exact ii, h.nl, h.nh⟩
instance Ik.dr {v : IV}   [h : Ik W v q] : Ik W.drew v q := ⟨by have := h.u; exact ii, by have := h.v; exact ii, h.nl, h.nh⟩
instance (priority := low) Ik.kp {v : IV} [kb : Kp1 W W2] [h : Ik W v q] : Ik W2 v q := ⟨by have := h.u; exact ii, by have := h.v; exact ii, h.nl, h.nh⟩
instance (priority := low) Ik.apn {v : IV} [kb : Apn W W2] [h : Ik W v q] : Ik W2 v q := ⟨by have := h.u; exact ii, by have := h.v; exact ii, h.nl, h.nh⟩
instance Ik.st {v : IV} {xv : Value} [kb : SoftB W qb] [h : Ik W v q] : Ik (W.setCell ⟨qb, ib, none⟩ xv) v q := ⟨by have := h.u; exact ii, by have := h.v; exact ii, h.nl, h.nh⟩
instance Ik.cu {v : IV} [h : Ik W v q] : CF W (.agg #[.int .i64 v.u.n, .int .i64 v.u.d, .pointer v.u.p]) q.lo 3000 := h.u
instance Ik.cv {v : IV} [h : Ik W v q] : CF W (.agg #[.int .i64 v.v.n, .int .i64 v.v.d, .pointer v.v.p]) q.hi 3000 := h.v
class Fk (W : World) (r : GW) (q : outParam FQ) : Prop where
 l : Lk W r.l q.l
 i : Ik W r.i q.v
instance Fk.al {v : GW} {q : FQ}  [h : Fk W v q] : Fk (W.alloc o) v q := ⟨by have := h.l; exact ii, by have := h.i; exact ii⟩
instance Fk.dr {v : GW} {q : FQ}   [h : Fk W v q] : Fk W.drew v q := ⟨by have := h.l; exact ii, by have := h.i; exact ii⟩
instance (priority := low) Fk.kp {v : GW} {q : FQ} [kb : Kp1 W W2] [h : Fk W v q] : Fk W2 v q := ⟨by have := h.l; exact ii, by have := h.i; exact ii⟩
instance (priority := low) Fk.apn {v : GW} {q : FQ} [kb : Apn W W2] [h : Fk W v q] : Fk W2 v q := ⟨by have := h.l; exact ii, by have := h.i; exact ii⟩
instance Fk.st {v : GW} {q : FQ} {xv : Value} [kb : SoftB W qb] [h : Fk W v q] : Fk (W.setCell ⟨qb, ib, none⟩ xv) v q := ⟨by have := h.l; exact ii, by have := h.i; exact ii⟩
instance Fk.cl {v : GW} {q : FQ} [h : Fk W v q] : Lk W v.l q.l := h.l
instance Fk.ci {v : GW} {q : FQ} [h : Fk W v q] : Ik W v.i q.v := h.i
def L9 (w : World) (q : LQ) (e : Ending) (w' : World) : Prop := ∃ v : LV, e = .returned (.agg #[.int .i64 v.x.n, .int .i64 v.x.d, .pointer v.x.p, .int .i64 v.y.n, .int .i64 v.y.d, .pointer v.y.p, .int .i64 v.z.n, .int .i64 v.z.d, .pointer v.z.p]) ∧ Lk w' v q ∧ Below w.heap.size w w'
variable {K : Ending → World → Prop} {P : Program} {args : Array Value}
theorem Fg {f : FuncId} {q : LQ} (h : Calls P f args w (L9 w q)) (hK : ∀ w' [Kp1 w w'] (v : LV) [Lk w' v q], K (.returned (.agg #[.int .i64 v.x.n, .int .i64 v.x.d, .pointer v.x.p, .int .i64 v.y.n, .int .i64 v.y.d, .pointer v.y.p, .int .i64 v.z.n, .int .i64 v.z.d, .pointer v.z.p])) w') : Calls P f args w K := by
 refine h.mono ?_
 rintro e w' ⟨v, rfl, hv, hb⟩
 exact @hK w' ⟨hb⟩ v hv
theorem L9.fin {q : LQ} (v : LV) [b : Kp w w'] (h : Lk w' v q) : L9 w q (.returned (.agg #[.int .i64 v.x.n, .int .i64 v.x.d, .pointer v.x.p, .int .i64 v.y.n, .int .i64 v.y.d, .pointer v.y.p, .int .i64 v.z.n, .int .i64 v.z.d, .pointer v.z.p])) w' := ⟨v, rfl, h, b.out⟩
def N4 (w : World) (q : IQ) (e : Ending) (w' : World) : Prop := ∃ v : IV, e = .returned (.agg #[.int .i64 v.u.n, .int .i64 v.u.d, .pointer v.u.p, .int .i64 v.v.n, .int .i64 v.v.d, .pointer v.v.p, .bool v.nl, .bool v.nh]) ∧ Ik w' v q ∧ Below w.heap.size w w'
theorem Qh8 {f : FuncId} (h : Calls P f args w (N4 w q)) (hK : ∀ w' [Kp1 w w'] (v : IV) [Ik w' v q], K (.returned (.agg #[.int .i64 v.u.n, .int .i64 v.u.d, .pointer v.u.p, .int .i64 v.v.n, .int .i64 v.v.d, .pointer v.v.p, .bool v.nl, .bool v.nh])) w') : Calls P f args w K := by
 refine h.mono ?_
 rintro e w' ⟨v, rfl, hv, hb⟩
 exact @hK w' ⟨hb⟩ v hv
theorem N4.fin (v : IV) [b : Kp w w'] (h : Ik w' v q) : N4 w q (.returned (.agg #[.int .i64 v.u.n, .int .i64 v.u.d, .pointer v.u.p, .int .i64 v.v.n, .int .i64 v.v.d, .pointer v.v.p, .bool v.nl, .bool v.nh])) w' := ⟨v, rfl, h, b.out⟩
def G7 (w : World) (q : IQ) (o : Bool) (e : Ending) (w' : World) : Prop := ∃ v : IV, e = .returned (.tuple #[.agg #[.int .i64 v.u.n, .int .i64 v.u.d, .pointer v.u.p, .int .i64 v.v.n, .int .i64 v.v.d, .pointer v.v.p, .bool v.nl, .bool v.nh], .bool o]) ∧ Ik w' v q ∧ Below w.heap.size w w'
theorem Bm {f : FuncId} {o : Bool} (h : Calls P f args w (G7 w q o)) (hK : ∀ w' [Kp1 w w'] (v : IV) [Ik w' v q], K (.returned (.tuple #[.agg #[.int .i64 v.u.n, .int .i64 v.u.d, .pointer v.u.p, .int .i64 v.v.n, .int .i64 v.v.d, .pointer v.v.p, .bool v.nl, .bool v.nh], .bool o])) w') : Calls P f args w K := by
 refine h.mono ?_
 rintro e w' ⟨v, rfl, hv, hb⟩
 exact @hK w' ⟨hb⟩ v hv
theorem G7.fin {o o' : Bool} (v : IV) [b : Kp w w'] (h : Ik w' v q) (e : o' = o) : G7 w q o (.returned (.tuple #[.agg #[.int .i64 v.u.n, .int .i64 v.u.d, .pointer v.u.p, .int .i64 v.v.n, .int .i64 v.v.d, .pointer v.v.p, .bool v.nl, .bool v.nh], .bool o'])) w' := by subst e; exact ⟨v, rfl, h, b.out⟩
def GW.c (e : GW) : List Value := [.int .i64 e.l.x.n, .int .i64 e.l.x.d, .pointer e.l.x.p, .int .i64 e.l.y.n, .int .i64 e.l.y.d, .pointer e.l.y.p, .int .i64 e.l.z.n, .int .i64 e.l.z.d, .pointer e.l.z.p, .int .i64 e.i.u.n, .int .i64 e.i.u.d, .pointer e.i.u.p, .int .i64 e.i.v.n, .int .i64 e.i.v.d, .pointer e.i.v.p, .bool e.i.nl, .bool e.i.nh]
theorem GW.len (e : GW) : e.c.length = 17 := rfl
theorem GW.one (e : GW) : ∀ u ∈ e.c, u.oneCell' = true := by
 intro u hu; simp only [GW.c, List.mem_cons, List.not_mem_nil, or_false] at hu; rcases hu with rfl | rfl | rfl | rfl | rfl | rfl | rfl | rfl | rfl | rfl | rfl | rfl | rfl | rfl | rfl | rfl | rfl <;> rfl
theorem GW.nd (e : GW) : ∀ u ∈ e.c, Am u = false := by
 intro u hu; simp only [GW.c, List.mem_cons, List.not_mem_nil, or_false] at hu; rcases hu with rfl | rfl | rfl | rfl | rfl | rfl | rfl | rfl | rfl | rfl | rfl | rfl | rfl | rfl | rfl | rfl | rfl <;> rfl
def rowW (V : List GW) : List Value := V.flatMap GW.c
theorem Qbb (V : List GW) (a : GW) : rowW (V ++ [a]) = rowW V ++ a.c := Fp _ _ _
theorem Kf (V U : List GW) : rowW (V ++ U) = rowW V ++ rowW U := List.flatMap_append ..
theorem F7 (V : List GW) : ∀ u ∈ rowW V, Am u = false := Fz GW.nd V
theorem Hn (V : List GW) : ∀ u ∈ rowW V, u.oneCell' = true := fun u hu => by
 obtain ⟨e, _, h⟩ := List.mem_flatMap.1 hu; exact e.one u h
theorem Dj (V : List GW) : (rowW V).length = V.length * 17 := by
 induction V with
 | nil => rfl
 | cons e V ih => rw [rowW, List.flatMap_cons, List.length_append, GW.len, ← rowW, ih, List.length_cons]; omega
def wV (V : List GW) (i : Nat) : GW := V.getD i ⟨⟨⟨0, 0, none⟩, ⟨0, 0, none⟩, ⟨0, 0, none⟩⟩, ⟨⟨0, 0, none⟩, ⟨0, 0, none⟩, false, false⟩⟩
variable {V : List GW}
theorem Fc {i : Nat} (h : i < V.length) : wV V i = V[i] := C7 h
variable {C : List FQ}
theorem Bz {i : Nat} (h : i < C.length) : sd C i = C[i] := C7 h
class Cw (W : World) (V : List GW) (C : outParam (List FQ)) : Prop where
 len : V.length = C.length
 f : ∀ i, i < V.length → Fk W (wV V i) (sd C i)
instance Cw.al  [h : Cw W V C] : Cw (W.alloc o) V C := ⟨h.len, fun i hi => by have := h.f i hi; exact ii⟩
instance Cw.dr   [h : Cw W V C] : Cw W.drew V C := ⟨h.len, fun i hi => by have := h.f i hi; exact ii⟩
instance (priority := low) Cw.kp [kb : Kp1 W W2] [h : Cw W V C] : Cw W2 V C := ⟨h.len, fun i hi => by have := h.f i hi; exact ii⟩
instance (priority := low) Cw.apn [kb : Apn W W2] [h : Cw W V C] : Cw W2 V C := ⟨h.len, fun i hi => by have := h.f i hi; exact ii⟩
instance Cw.st {xv : Value} [kb : SoftB W qb] [h : Cw W V C] : Cw (W.setCell ⟨qb, ib, none⟩ xv) V C := ⟨h.len, fun i hi => by have := h.f i hi; exact ii⟩
instance Cw.at {i : Nat} [h : Cw W V C] [l : LtN i V.length] : Fk W (wV V i) (sd C i) := h.f i l.out
theorem Cw.nil : Cw W [] [] := ⟨rfl, fun i hi => by simp at hi⟩
theorem Cw.app {U : List GW} {D : List FQ} (h : Cw W V C) (k : Cw W U D) : Cw W (V ++ U) (C ++ D) := by
 refine ⟨by rw [List.length_append, List.length_append, h.len, k.len], fun i hi => ?_⟩
 rw [List.length_append] at hi
 rcases Nat.lt_or_ge i V.length with hlt | hge
 ·have e1 : wV (V ++ U) i = wV V i := by rw [Fc (by rw [List.length_append]; omega), Fc hlt, List.getElem_append_left hlt]
  have e2 : sd (C ++ D) i = sd C i := by rw [Bz (by rw [List.length_append, ← h.len]; omega), Bz (by rw [← h.len]; exact hlt), List.getElem_append_left (by rw [← h.len]; exact hlt)]
  rw [e1, e2]; exact h.f i hlt
 ·have e1 : wV (V ++ U) i = wV U (i - V.length) := by rw [Fc (by rw [List.length_append]; omega), Fc (by omega), List.getElem_append_right hge]
  have e2 : sd (C ++ D) i = sd D (i - V.length) := by rw [Bz (by rw [List.length_append, ← h.len, ← k.len]; omega), Bz (by rw [← k.len]; omega), List.getElem_append_right (by rw [← h.len]; exact hge)]; simp only [h.len]
  rw [e1, e2]; exact k.f _ (by omega)
theorem Cw.one {e : GW} {f : FQ} (h : Fk W e f) : Cw W [e] [f] := ⟨rfl, fun i hi => by
 have e0 : i = 0 := by simp at hi; omega
 subst e0; exact h⟩
theorem Cw.take (h : Cw W V C) (n : Nat) : Cw W (V.take n) (C.take n) := by
 refine ⟨by rw [List.length_take, List.length_take, h.len], fun i hi => ?_⟩
 have hi' : i < V.length := by rw [List.length_take] at hi; omega
 have e1 : wV (V.take n) i = wV V i := by rw [Fc hi, Fc hi', List.getElem_take]
 have e2 : sd (C.take n) i = sd C i := by rw [Bz (by rw [List.length_take, ← h.len, ← List.length_take]; exact hi), Bz (by rw [← h.len]; exact hi'), List.getElem_take]
 rw [e1, e2]; exact h.f i hi'
theorem Cw.drop (h : Cw W V C) (n : Nat) : Cw W (V.drop n) (C.drop n) := by
 refine ⟨by rw [List.length_drop, List.length_drop, h.len], fun i hi => ?_⟩
 have hi' : n + i < V.length := by rw [List.length_drop] at hi; omega
 have e1 : wV (V.drop n) i = wV V (n + i) := by rw [Fc hi, Fc hi', List.getElem_drop]
 have e2 : sd (C.drop n) i = sd C (n + i) := by rw [Bz (by rw [List.length_drop, ← h.len, ← List.length_drop]; exact hi), Bz (by rw [← h.len]; exact hi'), List.getElem_drop]
 rw [e1, e2]; exact h.f _ hi'
theorem Ci {j : Nat} (h : At W g (rowW V) w0) (hk : k < V.length) (hj : j < 17) : W.cell? ⟨g, k * 17 + j, none⟩ = some ((wV V k).c[j]'hj) := by
 rw [Fc hk]
 exact h.out _ _ (by rw [rowW, F9 GW.len V k j hk hj]; exact List.getElem?_eq_getElem (l := V[k].c) hj)
theorem C6 [h : At W g (rowW V) w0] (hk : k < V.length) : (loadVar 165 ⟨g, k * 17, none⟩).run Tryz.prog W = .ok (.agg #[.int .i64 (wV V k).l.x.n, .int .i64 (wV V k).l.x.d, .pointer (wV V k).l.x.p, .int .i64 (wV V k).l.y.n, .int .i64 (wV V k).l.y.d, .pointer (wV V k).l.y.p, .int .i64 (wV V k).l.z.n, .int .i64 (wV V k).l.z.d, .pointer (wV V k).l.z.p, .int .i64 (wV V k).i.u.n, .int .i64 (wV V k).i.u.d, .pointer (wV V k).i.u.p, .int .i64 (wV V k).i.v.n, .int .i64 (wV V k).i.v.d, .pointer (wV V k).i.v.p, .bool (wV V k).i.nl, .bool (wV V k).i.nh]) W :=
 Ms W g (k * 17) 165 (wV V k).c _ Tryz.underlying165 rfl (by kernel_rfl) (fun j hj => Ci h hk hj)
def Z6 (w : World) (C : List FQ) (e : Ending) (w' : World) : Prop := ∃ (a : Option Addr) (c : Nat) (V : List GW), e = .returned (.slice a V.length c) ∧ Sl w' (.slice a V.length c) V.length (rowW V) w' ∧ Cw w' V C ∧ Below w.heap.size w w'
theorem Nu {f : FuncId} (h : Calls P f args w (Z6 w C))
  (hK : ∀ w' [Kp1 w w'] (a : Option Addr) (c : Nat) (V : List GW) [Sl w' (.slice a V.length c) V.length (rowW V) w'] [Cw w' V C], K (.returned (.slice a V.length c)) w') : Calls P f args w K := by
 refine h.mono ?_
 rintro e w' ⟨a, c, V, rfl, hs, hv, hb⟩
 exact @hK w' ⟨hb⟩ a c V hs hv
theorem Hs : (Tryz.prog.info? 165).map (fun i => (i.zero, i.size, i.bytes)) = some (some (.agg #[.int .i64 0, .int .i64 0, .pointer none, .int .i64 0, .int .i64 0, .pointer none, .int .i64 0, .int .i64 0, .pointer none, .int .i64 0, .int .i64 0, .pointer none, .int .i64 0, .int .i64 0, .pointer none, .bool false, .bool false]), 17, 128) := by kernel_rfl
end
section
def LnV (a b c : Int) : Prop := ¬ (a = 0 ∧ b = 0) ∧ A8 a b c = 1
variable {a b c x : Int}
theorem LnV.rev (h : LnV a b c) : LnV (-a) (-b) (-c) := by
 refine ⟨fun e => h.1 ⟨by omega, by omega⟩, ?_⟩
 unfold A8; rw [Int.natAbs_neg, Int.natAbs_neg, Int.natAbs_neg]; exact h.2
theorem Ju {a b c : Rat} (h : ¬ (a = 0 ∧ b = 0)) : ∃ A B C : Int, (A : Rat) = lnK a a b c ∧ (B : Rat) = lnK b a b c ∧ (C : Rat) = lnK c a b c ∧ LnV A B C := by
 have hm : (0 : Rat) < (((a.den * b.den * c.den : Nat) : Int) : Rat) := by
  have : 0 < a.den * b.den * c.den := Nat.mul_pos (Nat.mul_pos a.den_pos b.den_pos) c.den_pos
  exact Rat.intCast_pos.2 (by omega)
 have ha := Po a (m := a.den * b.den * c.den) ⟨b.den * c.den, by rw [Nat.mul_assoc]⟩
 have hb := Po b (m := a.den * b.den * c.den) ⟨a.den * c.den, by rw [Nat.mul_comm a.den b.den, Nat.mul_assoc]⟩
 have hc := Po c (m := a.den * b.den * c.den) ⟨a.den * b.den, by rw [Nat.mul_comm]⟩
 generalize (((a.den * b.den * c.den : Nat) : Int) : Rat) = m at *; generalize (a * m).num = x, (b * m).num = y, (c * m).num = z at *
 have hxy : ¬ (x = 0 ∧ y = 0) := by
  rintro ⟨rfl, rfl⟩
  refine h ⟨?_, ?_⟩
  ·rcases Rat.mul_eq_zero.1 (ha.trans rfl) with e | e
   ·exact e
   ·rw [e] at hm; exact absurd hm (by decide)
  ·rcases Rat.mul_eq_zero.1 (hb.trans rfl) with e | e
   ·exact e
   ·rw [e] at hm; exact absurd hm (by decide)
 have hd := Qr x y z
 refine ⟨x / ((A8 x y z : Nat) : Int), y / ((A8 x y z : Nat) : Int), z / ((A8 x y z : Nat) : Int), ?_, ?_, ?_, ?_, Qdx hxy⟩
 ·rw [← Kc hxy hd.1, ← ha, ← hb, ← hc, Hr _ _ _ _ hm]
 ·rw [← Kc hxy hd.2.1, ← ha, ← hb, ← hc, Hr _ _ _ _ hm]
 ·rw [← Kc hxy hd.2.2, ← ha, ← hb, ← hc, Hr _ _ _ _ hm]
 ·rintro ⟨e1, e2⟩
  have h1 := Int.ediv_mul_cancel hd.1
  have h2 := Int.ediv_mul_cancel hd.2.1
  rw [e1] at h1; rw [e2] at h2
  exact hxy ⟨by rw [← h1]; simp, by rw [← h2]; simp⟩
theorem K9 (h : LnV a b c) : lnK (x : Rat) (a : Rat) (b : Rat) (c : Rat) = (x : Rat) := by
 have := @Kc x a b c h.1 (by rw [h.2]; exact ⟨x, by simp⟩)
 rw [this, h.2]; simp
variable {t : Rat}
theorem I0 (h : LnV a b c) (ht : 0 < t) : lnK ((x : Rat) * t) ((a : Rat) * t) ((b : Rat) * t) ((c : Rat) * t) = (x : Rat) := by
 rw [Hr _ _ _ _ ht, K9 h]
theorem Kg (h : ¬ (a = 0 ∧ b = 0)) : (a : Rat) * a + (b : Rat) * b ≠ 0 := by
 have h1 : (a : Rat) * a + (b : Rat) * b = ((a * a + b * b : Int) : Rat) := by simp [Rat.intCast_add, Rat.intCast_mul]
 rw [h1]; intro e
 have e2 : a * a + b * b = 0 := by exact_mod_cast e
 have p1 : 0 ≤ a * a := by rcases Int.le_total 0 a with h | h; exact Int.mul_nonneg h h; exact Int.mul_nonneg_of_nonpos_of_nonpos h h
 have p2 : 0 ≤ b * b := by rcases Int.le_total 0 b with h | h; exact Int.mul_nonneg h h; exact Int.mul_nonneg_of_nonpos_of_nonpos h h
 have q1 : a * a = 0 := (by omega); have q2 : b * b = 0 := (by omega)
 exact h ⟨by rcases Int.mul_eq_zero.1 q1 with e | e <;> exact e, by rcases Int.mul_eq_zero.1 q2 with e | e <;> exact e⟩
theorem Qec {a b c : Rat} (h : a * a + b * b ≠ 0) : (b * (a * (-c / (a * a + b * b)) + b * t) + -a * (b * (-c / (a * a + b * b)) + -a * t)) / (b * b + -a * -a) = t := by
 have h2 : b * b + -a * -a = a * a + b * b := by grind
 rw [h2]
 grind
end
section
def dsc (L : List (Rat × Rat)) : Nat → Nat
 | 0 => 0
 | k + 1 => dsc L k + if pg L k ∈ L.take k then 0 else 1
theorem Y1 (L : List (Rat × Rat)) {a b : Nat} (h : a ≤ b) : dsc L a ≤ dsc L b := by
  induction b with
  | zero => have : a = 0 := by omega
            subst this; exact Nat.le_refl _
  | succ b ih =>
    rcases Nat.lt_or_ge b a with hlt | hge
    · have : a = b + 1 := by omega
      subst this; exact Nat.le_refl _
    · exact Nat.le_trans (ih hge) (by simp only [dsc]; omega)
variable {L : List (Rat × Rat)}
theorem J2 {k : Nat} (hk : k ≤ L.length) {p : Rat × Rat} : p ∈ L.take k ↔ ∃ j, j < k ∧ pg L j = p := by
 rw [List.mem_iff_getElem]; constructor
 ·rintro ⟨j, hj, e⟩
  have h1 : j < k := by rw [List.length_take] at hj; omega
  exact ⟨j, h1, by rw [Aw (by omega), ← e, List.getElem_take]⟩
 ·rintro ⟨j, hj, e⟩
  refine ⟨j, by rw [List.length_take]; omega, ?_⟩
  rw [List.getElem_take, ← e, Aw (by omega)]
structure RingOK (L : List (Rat × Rat)) : Prop where
 three : 3 ≤ dsc L L.length
 edge : ∀ i, i < L.length → pg L i ≠ pg L ((i + 1) % L.length)
theorem RingOK.pos (h : RingOK L) : 0 < L.length := by
 rcases Nat.eq_zero_or_pos L.length with e | e
 ·have := h.three
  rw [e] at this; simp [dsc] at this
 ·exact e
theorem T3 (h3 : 3 ≤ L.length) (h1 : pg L 1 ≠ pg L 0) (h2 : pg L 2 ≠ pg L 0) (h4 : pg L 2 ≠ pg L 1) : 3 ≤ dsc L L.length := by
 refine Nat.le_trans ?_ (Y1 L h3)
 have e1 : pg L 1 ∉ L.take 1 := by
  rw [J2 (by omega)]
  rintro ⟨j, hj, e⟩
  have : j = 0 := by omega
  subst this; exact h1 e.symm
 have e2 : pg L 2 ∉ L.take 2 := by
  rw [J2 (by omega)]
  rintro ⟨j, hj, e⟩
  rcases (by omega : j = 0 ∨ j = 1) with rfl | rfl
  ·exact h2 e.symm
  ·exact h4 e.symm
 simp [dsc, e1, e2]
def Qy (L : List (Rat × Rat)) (p : Rat × Rat) (m : Nat) : Prop := m < L.length ∧ pg L m = p ∧ ∀ j, j < m → pg L j ≠ p
theorem Qy.new {i m : Nat} (hi : i < L.length) (h : Qy L (pg L i) m) : m = i ↔ pg L i ∉ L.take i := by
 rw [J2 (by omega)]; constructor
 ·rintro rfl ⟨j, hj, e⟩
  exact h.2.2 j hj e
 ·intro hn
  rcases Nat.lt_trichotomy m i with hlt | rfl | hgt
  ·exact absurd ⟨m, hlt, h.2.1⟩ hn
  ·rfl
  ·exact absurd rfl (h.2.2 i hgt)
end
section
set_option maxHeartbeats 40000000
set_option synthInstance.maxHeartbeats 1000000
set_option synthInstance.maxSize 100000
theorem Qil {n m : Int} (h1 : -4611686018427387904 < n) (h2 : n < 4611686018427387904) (h3 : -4611686018427387904 < m) (h4 : m < 4611686018427387904) : Nat.gcd n.natAbs m.natAbs < 4611686018427387904 := by
 rcases Nat.eq_zero_or_pos n.natAbs with h | h
 ·rw [h, Nat.gcd_zero_left]; omega
 ·have := Nat.gcd_le_left m.natAbs h; omega
variable {d1 d2 n1 n2 v : Int} {k1 k2 : Nat} {p1 : Option Addr} {w : World} {x y : Rat}
theorem Iv {p2 : Option Addr} [h1 : CF w (.agg #[.int .i64 n1, .int .i64 d1, .pointer p1]) x k1] [h2 : CF w (.agg #[.int .i64 n2, .int .i64 d2, .pointer p2]) y k2] (b : k1 ≤ 100000 ∧ k2 ≤ 100000) :
  Calls Tryz.prog 185 #[.agg #[.int .i64 n1, .int .i64 d1, .pointer p1], .agg #[.int .i64 n2, .int .i64 d2, .pointer p2]] w (Bk w (rgcd x y) (k1 + k2 + 6)) := by
 have hfld : ∀ (x0 x1 : Value) (W : World), (Instr.field 47 (.agg #[x0, x1]) 1).run Tryz.prog W = .ok x1 W := fun _ _ _ => by kernel_rfl
 have HE := Lib.hid (show mkRat (sgn false (Nat.gcd (x.num.natAbs * y.den) (y.num.natAbs * x.den))) (x.den * y.den) = rgcd x y from rfl)
 rcases CF.cases h1 with ⟨rfl, en1, ed1, bn1, bm1, bd1, be1, bk1⟩ | ⟨rfl, rfl, hq1, q1, G1, A1, L1, C1, AA1, LL1, CC1, rfl, hB1, hZ1, hN1⟩
 ·rcases CF.cases h2 with ⟨rfl, en2, ed2, bn2, bm2, bd2, be2, bk2⟩ | ⟨rfl, rfl, hq2, q2, G2, A2, L2, C2, AA2, LL2, CC2, rfl, hB2, hZ2, hN2⟩
  ·by_cases hd : d1 = 0 ∧ d2 = 0
   ·obtain ⟨rfl, rfl⟩ := hd
    have hG0 := @Xk x y (by omega) (by omega)
    rw [en1, en2] at hG0
    have hb := Qil bn1 bm1 bn2 bm2
    generalize hG : Nat.gcd n1.natAbs n2.natAbs = G at *
    have HG := Lib.hid hG
    have hw : IntKind.i64.wrap ((G : Nat) : Int) = (G : Int) := by rw [IntKind.wrap_i64]; omega
    have HF : Hid (∀ W : World, CF W (.agg #[.int .i64 ((G : Nat) : Int), .int .i64 0, .pointer none]) (rgcd x y) 2) := fun W => CF.small (by rw [hG0]; rfl) (by rw [hG0]; rfl) (by omega) (by omega) (by omega) (by omega)
    clear hG hG0 en1 en2 ed1 ed2 HE; go_enter Tryz.func185, Tryz.ntmps185; go_wp2_with fail; refine rgn [w.heap.size + 1 + 1] [] fun hH => ?_; refine tk 0 hH ?_; refine tk 1 hH ?_; refine tk 3 hH ?_; refine tk 4 hH (st 2 fun K hK => ?_); go_simp; refine Aq (Iu (by omega) (by omega)) ?_; intros; refine hd hK fun hH => st 5 fun K hK => ?_; go_simp; refine Aq (Iu (by omega) (by omega)) ?_; intros; refine hd hK fun hH => st 6 fun K hK => ?_; go_simp; refine Aa (Qv (by omega) (by omega) HG) ?_; intros; refine hd hK fun hH => ?_; refine tk 7 hH ?_; refine tk 8 hH (st 9 fun K hK => ?_); go_simp; refine hd hK fun hH => dn ?_; clear hH; go_wp2; refine Ac rfl Tryz.underlying96 rfl (by kernel_rfl) rfl rfl rfl ?_; exact Bk.fin (hx := HF.out _) (kx := 2) rfl (by omega)
   ·by_cases h1' : d1 = 0
    ·have q : (d2 == 0) = false := by rw [beq_eq_false_iff_ne]; omega
     subst h1'
     clear en1 en2 ed1 ed2 hd; go_enter Tryz.func185, Tryz.ntmps185; go_wp2_with fail; refine rgn [w.heap.size + 1 + 1] [] fun hH => ?_; refine tk 0 hH ?_; refine tk 2 hH (st 1 fun K hK => ?_); go_simp; refine Ae (Bd (by omega)) ?_; intros; refine hd hK fun hH => st 3 fun K hK => ?_; go_simp; refine Ae (Bd (by omega)) ?_; intros; refine hd hK fun hH => st 4 fun K hK => ?_; go_simp; refine Ae (Dd (by omega)) ?_; intros; refine hd hK fun hH => ?_; refine tk 5 hH (dn ?_); clear hH
     go_wp2_with (first
       | (go_at_call 141; refine Ab (Dp (by omega)) ?_; intros))
     refine rgn [w.heap.size + 1 + 1] [] fun hH => ?_; refine tk 0 hH ?_; refine tk 3 hH ?_; refine tk 6 hH ?_; refine tk 9 hH (st 1 fun K hK => ?_); go_simp; refine Gn (B7 (by omega)) ?_; intros; refine hd hK fun hH => ?_; refine tk 2 hH (st 4 fun K hK => ?_); go_simp; refine Ae (Bd (by omega)) ?_; intros; refine hd hK fun hH => st 5 fun K hK => ?_; go_simp; refine Ae (Dd (by omega)) ?_; intros; refine hd hK fun hH => st 7 fun K hK => ?_; go_simp; refine Gn (B7 (by omega)) ?_; intros; refine hd hK fun hH => ?_; refine tk 8 hH (st 10 fun K hK => ?_); go_simp; refine Ae (Bd (by omega)) ?_; intros; refine hd hK fun hH => st 11 fun K hK => ?_; go_simp; refine Ae (Dd (by omega)) ?_; intros; refine hd hK fun hH => st 12 fun K hK => ?_; go_simp; refine Ae (De (by omega)) ?_; intros; refine hd hK fun hH => ?_; refine tk 13 hH (dn ?_); clear hH
     go_wp2_with (first
       | (go_at_call 141; refine Ab (Dp (by omega)) ?_; intros))
     refine Ac rfl Tryz.underlying96 rfl (by kernel_rfl) rfl rfl rfl ?_; exact Bk.fin HE.out (by omega)
    ·have q : (d1 == 0) = false := by rw [beq_eq_false_iff_ne]; exact h1'
     clear en1 en2 ed1 ed2 hd h1'; go_enter Tryz.func185, Tryz.ntmps185; go_wp2_with fail; refine rgn [w.heap.size + 1 + 1] [] fun hH => ?_; refine tk 0 hH ?_; refine tk 2 hH (st 1 fun K hK => ?_); go_simp; refine Ae (Bd (by omega)) ?_; intros; refine hd hK fun hH => st 3 fun K hK => ?_; go_simp; refine Ae (Bd (by omega)) ?_; intros; refine hd hK fun hH => st 4 fun K hK => ?_; go_simp; refine Ae (Dd (by omega)) ?_; intros; refine hd hK fun hH => ?_; refine tk 5 hH (dn ?_); clear hH
     go_wp2_with (first
       | (go_at_call 141; refine Ab (Dp (by omega)) ?_; intros))
     refine rgn [w.heap.size + 1 + 1] [] fun hH => ?_; refine tk 0 hH ?_; refine tk 3 hH ?_; refine tk 6 hH ?_; refine tk 9 hH (st 1 fun K hK => ?_); go_simp; refine Gn (B7 (by omega)) ?_; intros; refine hd hK fun hH => ?_; refine tk 2 hH (st 4 fun K hK => ?_); go_simp; refine Ae (Bd (by omega)) ?_; intros; refine hd hK fun hH => st 5 fun K hK => ?_; go_simp; refine Ae (Dd (by omega)) ?_; intros; refine hd hK fun hH => st 7 fun K hK => ?_; go_simp; refine Gn (B7 (by omega)) ?_; intros; refine hd hK fun hH => ?_; refine tk 8 hH (st 10 fun K hK => ?_); go_simp; refine Ae (Bd (by omega)) ?_; intros; refine hd hK fun hH => st 11 fun K hK => ?_; go_simp; refine Ae (Dd (by omega)) ?_; intros; refine hd hK fun hH => st 12 fun K hK => ?_; go_simp; refine Ae (De (by omega)) ?_; intros; refine hd hK fun hH => ?_; refine tk 13 hH (dn ?_); clear hH
     go_wp2_with (first
       | (go_at_call 141; refine Ab (Dp (by omega)) ?_; intros))
     refine Ac rfl Tryz.underlying96 rfl (by kernel_rfl) rfl rfl rfl ?_; exact Bk.fin HE.out (by omega)
  ·clear en1 ed1; go_enter Tryz.func185, Tryz.ntmps185; go_wp2_with fail; refine rgn [w.heap.size + 1 + 1] [] fun hH => ?_; refine tk 0 hH ?_; refine tk 2 hH (st 1 fun K hK => ?_); go_simp; refine Ae (Bd (by omega)) ?_; intros; refine hd hK fun hH => st 3 fun K hK => ?_; go_simp; refine Ae (Bd (by omega)) ?_; intros; refine hd hK fun hH => st 4 fun K hK => ?_; go_simp; refine Ae (Dd (by omega)) ?_; intros; refine hd hK fun hH => ?_; refine tk 5 hH (dn ?_); clear hH
   go_wp2_with (first
     | (go_at_call 141; refine Ab (Dp (by omega)) ?_; intros))
   refine rgn [w.heap.size + 1 + 1] [] fun hH => ?_; refine tk 0 hH ?_; refine tk 3 hH ?_; refine tk 6 hH ?_; refine tk 9 hH (st 1 fun K hK => ?_); go_simp; refine Gn (B7 (by omega)) ?_; intros; refine hd hK fun hH => ?_; refine tk 2 hH (st 4 fun K hK => ?_); go_simp; refine Ae (Bd (by omega)) ?_; intros; refine hd hK fun hH => st 5 fun K hK => ?_; go_simp; refine Ae (Dd (by omega)) ?_; intros; refine hd hK fun hH => st 7 fun K hK => ?_; go_simp; refine Gn (B7 (by omega)) ?_; intros; refine hd hK fun hH => ?_; refine tk 8 hH (st 10 fun K hK => ?_); go_simp; refine Ae (Bd (by omega)) ?_; intros; refine hd hK fun hH => st 11 fun K hK => ?_; go_simp; refine Ae (Dd (by omega)) ?_; intros; refine hd hK fun hH => st 12 fun K hK => ?_; go_simp; refine Ae (De (by omega)) ?_; intros; refine hd hK fun hH => ?_; refine tk 13 hH (dn ?_); clear hH
   go_wp2_with (first
     | (go_at_call 141; refine Ab (Dp (by omega)) ?_; intros))
   refine Ac rfl Tryz.underlying96 rfl (by kernel_rfl) rfl rfl rfl ?_; exact Bk.fin HE.out (by omega)
 ·go_enter Tryz.func185, Tryz.ntmps185; go_wp2_with fail; refine rgn [w.heap.size + 1 + 1] [] fun hH => ?_; refine tk 0 hH ?_; refine tk 2 hH (st 1 fun K hK => ?_); go_simp; refine Ae (Bd (by omega)) ?_; intros; refine hd hK fun hH => st 3 fun K hK => ?_; go_simp; refine Ae (Bd (by omega)) ?_; intros; refine hd hK fun hH => st 4 fun K hK => ?_; go_simp; refine Ae (Dd (by omega)) ?_; intros; refine hd hK fun hH => ?_; refine tk 5 hH (dn ?_); clear hH
  go_wp2_with (first
    | (go_at_call 141; refine Ab (Dp (by omega)) ?_; intros))
  refine rgn [w.heap.size + 1 + 1] [] fun hH => ?_; refine tk 0 hH ?_; refine tk 3 hH ?_; refine tk 6 hH ?_; refine tk 9 hH (st 1 fun K hK => ?_); go_simp; refine Gn (B7 (by omega)) ?_; intros; refine hd hK fun hH => ?_; refine tk 2 hH (st 4 fun K hK => ?_); go_simp; refine Ae (Bd (by omega)) ?_; intros; refine hd hK fun hH => st 5 fun K hK => ?_; go_simp; refine Ae (Dd (by omega)) ?_; intros; refine hd hK fun hH => st 7 fun K hK => ?_; go_simp; refine Gn (B7 (by omega)) ?_; intros; refine hd hK fun hH => ?_; refine tk 8 hH (st 10 fun K hK => ?_); go_simp; refine Ae (Bd (by omega)) ?_; intros; refine hd hK fun hH => st 11 fun K hK => ?_; go_simp; refine Ae (Dd (by omega)) ?_; intros; refine hd hK fun hH => st 12 fun K hK => ?_; go_simp; refine Ae (De (by omega)) ?_; intros; refine hd hK fun hH => ?_; refine tk 13 hH (dn ?_); clear hH
  go_wp2_with (first
    | (go_at_call 141; refine Ab (Dp (by omega)) ?_; intros))
  refine Ac rfl Tryz.underlying96 rfl (by kernel_rfl) rfl rfl rfl ?_; exact Bk.fin HE.out (by omega)
theorem Cx {p2 : Option Addr} [h1 : CF w (.agg #[.int .i64 n1, .int .i64 d1, .pointer p1]) x k1] [h2 : CF w (.agg #[.int .i64 n2, .int .i64 d2, .pointer p2]) y k2] (b : k1 ≤ 100000 ∧ k2 ≤ 100000) (hv : Hid (isgn (x - y).num = v)) :
  Calls Tryz.prog 133 #[.agg #[.int .i64 n1, .int .i64 d1, .pointer p1], .agg #[.int .i64 n2, .int .i64 d2, .pointer p2]] w (fun e w' => e = .returned (.int .i64 v) ∧ Below w.heap.size w w') := by
 rw [← hv.out]; exact Jh b
theorem Hj {g1 g2 : Bool} {a1 aa1 a2 aa2 : Option Addr} {l1 c1 ll1 cc1 l2 c2 ll2 cc2 : Nat} [h1 : CQ w (.agg #[.bool g1, .slice a1 l1 c1, .slice aa1 ll1 cc1]) x k1] [h2 : CQ w (.agg #[.bool g2, .slice a2 l2 c2, .slice aa2 ll2 cc2]) y k2] (b : k1 ≤ 10000 ∧ k2 ≤ 10000) (hv : Hid (isgn (x - y).num = v)) :
  Calls Tryz.prog 30 #[.agg #[.bool g1, .slice a1 l1 c1, .slice aa1 ll1 cc1], .agg #[.bool g2, .slice a2 l2 c2, .slice aa2 ll2 cc2]] w (fun e w' => e = .returned (.int .i64 v) ∧ Below w.heap.size w w') := by
 rw [← hv.out]; exact Ou (by omega)
end
section
set_option maxHeartbeats 40000000
set_option synthInstance.maxHeartbeats 1000000
set_option synthInstance.maxSize 100000
def Iz (x1 y1 x2 y2 : Rat) : Int := if isgn (x1 - x2).num = 0 then isgn (y1 - y2).num else isgn (x1 - x2).num
theorem Qcq {w : World} {g1x g1y g2x g2y : Bool} {a1x aa1x a1y aa1y a2x aa2x a2y aa2y : Option Addr} {l1x c1x ll1x cc1x l1y c1y ll1y cc1y l2x c2x ll2x cc2x l2y c2y ll2y cc2y k1x k1y k2x k2y : Nat} {x1 y1 x2 y2 : Rat} [h1x : CQ w (.agg #[.bool g1x, .slice a1x l1x c1x, .slice aa1x ll1x cc1x]) x1 k1x] [h1y : CQ w (.agg #[.bool g1y, .slice a1y l1y c1y, .slice aa1y ll1y cc1y]) y1 k1y] [h2x : CQ w (.agg #[.bool g2x, .slice a2x l2x c2x, .slice aa2x ll2x cc2x]) x2 k2x] [h2y : CQ w (.agg #[.bool g2y, .slice a2y l2y c2y, .slice aa2y ll2y cc2y]) y2 k2y] (b : k1x ≤ 9000 ∧ k1y ≤ 9000 ∧ k2x ≤ 9000 ∧ k2y ≤ 9000) :
  Calls Tryz.prog 101 #[.agg #[.bool g1x, .slice a1x l1x c1x, .slice aa1x ll1x cc1x, .bool g1y, .slice a1y l1y c1y, .slice aa1y ll1y cc1y], .agg #[.bool g2x, .slice a2x l2x c2x, .slice aa2x ll2x cc2x, .bool g2y, .slice a2y l2y c2y, .slice aa2y ll2y cc2y]] w (fun e w' => e = .returned (.int .i64 (Iz x1 y1 x2 y2)) ∧ Below w.heap.size w w') := by
 obtain ⟨q1, q2⟩ := Ls (x1 - x2).num
 by_cases hc : isgn (x1 - x2).num = 0
 ·have HE : Hid (Iz x1 y1 x2 y2 = isgn (y1 - y2).num) := if_pos hc
  have HC := Lib.hid hc; clear hc q1 q2; go_enter Tryz.func101, Tryz.ntmps101
  go_wp2_with (first
  | (go_at_call 30; refine Aa (Hj (by omega) HC) ?_; intros)
  | (go_at_call 30; refine Aa (Ou (by omega)) ?_; intros))
  go_ret
  exact E.fin (by rw [HE.out]; rfl)
 ·have HE : Hid (Iz x1 y1 x2 y2 = isgn (x1 - x2).num) := if_neg hc
  obtain ⟨c, hC⟩ : ∃ c, isgn (x1 - x2).num = c := ⟨_, rfl⟩; rw [hC] at HE hc q1 q2; have HC := Lib.hid hC
  have q : (c == 0) = false := by rw [beq_eq_false_iff_ne]; exact hc
  clear hC hc; go_enter Tryz.func101, Tryz.ntmps101
  go_wp2_with (first
  | (go_at_call 30; refine Aa (Hj (by omega) HC) ?_; intros)
  | (go_at_call 30; refine Aa (Ou (by omega)) ?_; intros))
  go_ret
  exact E.fin (by rw [HE.out]; rfl)
end
def Bl (p q : Rat × Rat) : Int := Iz p.1 p.2 q.1 q.2
section
set_option maxHeartbeats 40000000
set_option synthInstance.maxHeartbeats 1000000
set_option synthInstance.maxSize 100000
theorem O3 {x y : Rat} : (isgn (x - y).num == 0) = decide (x = y) := by
 rw [Bool.eq_iff_iff, beq_iff_eq, decide_eq_true_eq]; rw [Lw]; constructor
 ·intro h; grind
 ·rintro rfl; grind
variable {a1x a1y a2x a2y aa1x aa1y aa2x aa2y : Option Addr} {c1x c1y c2x c2y cc1x cc1y cc2x cc2y k k1x k1y k2x k2y l1x l1y l2x l2y ll1x ll1y ll2x ll2y t : Nat} {g1x g1y g2x g2y : Bool} {w : World} {x1 x2 y1 y2 : Rat}
theorem Qj2 [h1x : CQ w (.agg #[.bool g1x, .slice a1x l1x c1x, .slice aa1x ll1x cc1x]) x1 k1x] [h1y : CQ w (.agg #[.bool g1y, .slice a1y l1y c1y, .slice aa1y ll1y cc1y]) y1 k1y] [h2x : CQ w (.agg #[.bool g2x, .slice a2x l2x c2x, .slice aa2x ll2x cc2x]) x2 k2x] [h2y : CQ w (.agg #[.bool g2y, .slice a2y l2y c2y, .slice aa2y ll2y cc2y]) y2 k2y] (b : k1x ≤ 9000 ∧ k1y ≤ 9000 ∧ k2x ≤ 9000 ∧ k2y ≤ 9000) :
  Calls Tryz.prog 61 #[.agg #[.bool g1x, .slice a1x l1x c1x, .slice aa1x ll1x cc1x, .bool g1y, .slice a1y l1y c1y, .slice aa1y ll1y cc1y], .agg #[.bool g2x, .slice a2x l2x c2x, .slice aa2x ll2x cc2x, .bool g2y, .slice a2y l2y c2y, .slice aa2y ll2y cc2y]] w (fun e w' => e = .returned (.bool (decide (x1 = x2) && decide (y1 = y2))) ∧ Below w.heap.size w w') := by
 have HX := Lib.hid (@O3 x1 x2); have HY := Lib.hid (@O3 y1 y2); obtain ⟨c, hc⟩ : ∃ c, isgn (x1 - x2).num = c := ⟨_, rfl⟩; obtain ⟨d, hd⟩ : ∃ d, isgn (y1 - y2).num = d := ⟨_, rfl⟩; rw [hc] at HX; rw [hd] at HY; have HC := Lib.hid hc; have HD := Lib.hid hd; clear hc hd
 by_cases h : c = 0
 ·subst h; go_enter Tryz.func61, Tryz.ntmps61
  go_wp2_with (first
   | (go_at_call 30; refine Aa (Hj (by omega) HC) ?_; intros)
   | (go_at_call 30; refine Aa (Hj (by omega) HD) ?_; intros))
  go_ret
  exact E.fin (by rw [← HX.out, ← HY.out]; simp)
 ·have q : (c == 0) = false := by rw [beq_eq_false_iff_ne]; exact h
  clear h; go_enter Tryz.func61, Tryz.ntmps61
  go_wp2_with (first
   | (go_at_call 30; refine Aa (Hj (by omega) HC) ?_; intros)
   | (go_at_call 30; refine Aa (Hj (by omega) HD) ?_; intros))
  go_ret
  exact E.fin (by rw [← HX.out, q]; rfl)
theorem Qcg {n1x d1x n1y d1y n2x d2x n2y d2y : Int} {p1x p1y p2x p2y : Option Addr} [h1x : CF w (.agg #[.int .i64 n1x, .int .i64 d1x, .pointer p1x]) x1 k1x] [h1y : CF w (.agg #[.int .i64 n1y, .int .i64 d1y, .pointer p1y]) y1 k1y] [h2x : CF w (.agg #[.int .i64 n2x, .int .i64 d2x, .pointer p2x]) x2 k2x] [h2y : CF w (.agg #[.int .i64 n2y, .int .i64 d2y, .pointer p2y]) y2 k2y] (b : k1x ≤ 20000 ∧ k1y ≤ 20000 ∧ k2x ≤ 20000 ∧ k2y ≤ 20000) :
  Calls Tryz.prog 78 #[.agg #[.int .i64 n1x, .int .i64 d1x, .pointer p1x, .int .i64 n1y, .int .i64 d1y, .pointer p1y], .agg #[.int .i64 n2x, .int .i64 d2x, .pointer p2x, .int .i64 n2y, .int .i64 d2y, .pointer p2y]] w (fun e w' => e = .returned (.bool (decide (x1 = x2) && decide (y1 = y2))) ∧ Below w.heap.size w w') := by
 by_cases h : x1 = x2
 ·have hd : decide (x1 = x2) = true := decide_eq_true h
  have HD := Lib.hid hd; clear h; go_enter Tryz.func78, Tryz.ntmps78
  go_wp2_with (first
  | (go_at_call 118; refine Aa (Pn (by omega)) ?_; intros))
  go_ret
  exact E.fin (by rw [HD.out, Bool.true_and]; rfl)
 ·have hd : decide (x1 = x2) = false := decide_eq_false h
  have HD := Lib.hid hd; clear h; go_enter Tryz.func78, Tryz.ntmps78
  go_wp2_with (first
  | (go_at_call 118; refine Aa (Pn (by omega)) ?_; intros))
  go_ret
  exact E.fin (by rw [HD.out, Bool.false_and]; rfl)
theorem D9 {m n : Int} (b : (-9223372036854775808 ≤ m ∧ m < 9223372036854775808) ∧ -9223372036854775808 ≤ n ∧ n < 9223372036854775808) :
  Calls Tryz.prog 28 #[.int .i64 m, .int .i64 n] w (Ld w (m : Rat) (n : Rat) 4) := by
 go_enter Tryz.func28, Tryz.ntmps28
 go_wp2_with (first
  | (go_at_call 21; refine A3 (Fj (by omega)) ?_; intros))
 refine Ac rfl Tryz.underlying40 rfl (by kernel_rfl) rfl rfl rfl ?_; exact Ld.fin rfl (by omega) rfl (by omega)
def Zc (w : World) (t : Nat) (k : Nat) (e : Ending) (w' : World) : Prop := ∃ (g : Bool) (a : Option Addr) (l c : Nat) (aa : Option Addr) (ll cc : Nat) (g2 : Bool) (a2 : Option Addr) (l2 c2 : Nat) (aa2 : Option Addr) (ll2 cc2 : Nat) (m n : Int), e = .returned (.agg #[.bool g, .slice a l c, .slice aa ll cc, .bool g2, .slice a2 l2 c2, .slice aa2 ll2 cc2]) ∧ CQ w' (.agg #[.bool g, .slice a l c, .slice aa ll cc]) ((m : Int) : Rat) k ∧ CQ w' (.agg #[.bool g2, .slice a2 l2 c2, .slice aa2 ll2 cc2]) ((n : Int) : Rat) k ∧ (-4 ≤ m ∧ m ≤ 4 ∧ -4 ≤ n ∧ n ≤ 4) ∧ Ct w' t ∧ Gb w w' t
variable {K : Ending → World → Prop} {P : Program} {args : Array Value} {f : FuncId}
theorem Oo [ht : Ct w t] (h : Calls P f args w (Zc w t k))
  (hK : ∀ w' [Tp1 w w' t] [Ct w' t] (g : Bool) (a : Option Addr) (l c : Nat) (aa : Option Addr) (ll cc : Nat) (g2 : Bool) (a2 : Option Addr) (l2 c2 : Nat) (aa2 : Option Addr) (ll2 cc2 : Nat) (m n : Int) [CQ w' (.agg #[.bool g, .slice a l c, .slice aa ll cc]) ((m : Int) : Rat) k] [CQ w' (.agg #[.bool g2, .slice a2 l2 c2, .slice aa2 ll2 cc2]) ((n : Int) : Rat) k], Hid (-4 ≤ m ∧ m ≤ 4 ∧ -4 ≤ n ∧ n ≤ 4) → K (.returned (.agg #[.bool g, .slice a l c, .slice aa ll cc, .bool g2, .slice a2 l2 c2, .slice aa2 ll2 cc2])) w') : Calls P f args w K := by
 refine h.mono ?_
 rintro e w' ⟨g, a, l, c, aa, ll, cc, g2, a2, l2, c2, aa2, ll2, cc2, m, n, rfl, hx, hy, hz, hc, hb⟩
 exact @hK w' ⟨hb.out, ht.out⟩ hc g a l c aa ll cc g2 a2 l2 c2 aa2 ll2 cc2 m n hx hy hz
theorem O7 [ht : Ct w t] : Calls Tryz.prog 57 #[.pointer (some ⟨t, 0, none⟩)] w (Zc w t 4) := by
 go_enter Tryz.func57, Tryz.ntmps57; go_wp2_with fail
 refine D6 (D5 (by omega)) ?_
 intro W1 _ _ m m1 m2
 have e1 : IntKind.i64.wrap (m - 4) = m - 4 := by rw [IntKind.wrap_i64]; omega
 go_wp2_with fail
 refine D6 (D5 (by omega)) ?_
 intro W2 _ _ n n1 n2
 have e2 : IntKind.i64.wrap (n - 4) = n - 4 := by rw [IntKind.wrap_i64]; omega
 go_wp2_with (first
  | (go_at_call 28; refine Dk (D9 (by omega)) ?_; intros))
 refine Ac rfl Tryz.underlying40 rfl (by kernel_rfl) rfl rfl rfl ?_
 exact ⟨_, _, _, _, _, _, _, _, _, _, _, _, _, _, _, _, rfl, ii, ii, ⟨by omega, by omega, by omega, by omega⟩, ii, ii⟩
def Sq (w : World) (t : Nat) (k : Nat) (e : Ending) (w' : World) : Prop := ∃ (g : Bool) (a : Option Addr) (l c : Nat) (aa : Option Addr) (ll cc : Nat) (g2 : Bool) (a2 : Option Addr) (l2 c2 : Nat) (aa2 : Option Addr) (ll2 cc2 : Nat) (m n : Int), e = .returned (.agg #[.bool g, .slice a l c, .slice aa ll cc, .bool g2, .slice a2 l2 c2, .slice aa2 ll2 cc2]) ∧ CQ w' (.agg #[.bool g, .slice a l c, .slice aa ll cc]) ((m : Int) : Rat) k ∧ CQ w' (.agg #[.bool g2, .slice a2 l2 c2, .slice aa2 ll2 cc2]) ((n : Int) : Rat) k ∧ (-4 ≤ m ∧ m ≤ 4 ∧ -4 ≤ n ∧ n ≤ 4 ∧ ¬ (m = 0 ∧ n = 0)) ∧ Ct w' t ∧ Gb w w' t
theorem Yf [ht : Ct w t] (h : Calls P f args w (Sq w t k))
  (hK : ∀ w' [Tp1 w w' t] [Ct w' t] (g : Bool) (a : Option Addr) (l c : Nat) (aa : Option Addr) (ll cc : Nat) (g2 : Bool) (a2 : Option Addr) (l2 c2 : Nat) (aa2 : Option Addr) (ll2 cc2 : Nat) (m n : Int) [CQ w' (.agg #[.bool g, .slice a l c, .slice aa ll cc]) ((m : Int) : Rat) k] [CQ w' (.agg #[.bool g2, .slice a2 l2 c2, .slice aa2 ll2 cc2]) ((n : Int) : Rat) k], Hid (-4 ≤ m ∧ m ≤ 4 ∧ -4 ≤ n ∧ n ≤ 4 ∧ ¬ (m = 0 ∧ n = 0)) → K (.returned (.agg #[.bool g, .slice a l c, .slice aa ll cc, .bool g2, .slice a2 l2 c2, .slice aa2 ll2 cc2])) w') : Calls P f args w K := by
 refine h.mono ?_
 rintro e w' ⟨g, a, l, c, aa, ll, cc, g2, a2, l2, c2, aa2, ll2, cc2, m, n, rfl, hx, hy, hz, hc, hb⟩
 exact @hK w' ⟨hb.out, ht.out⟩ hc g a l c aa ll cc g2 a2 l2 c2 aa2 ll2 cc2 m n hx hy hz
theorem It {v : Bool} [h1x : CQ w (.agg #[.bool g1x, .slice a1x l1x c1x, .slice aa1x ll1x cc1x]) x1 k1x] [h1y : CQ w (.agg #[.bool g1y, .slice a1y l1y c1y, .slice aa1y ll1y cc1y]) y1 k1y] [h2x : CQ w (.agg #[.bool g2x, .slice a2x l2x c2x, .slice aa2x ll2x cc2x]) x2 k2x] [h2y : CQ w (.agg #[.bool g2y, .slice a2y l2y c2y, .slice aa2y ll2y cc2y]) y2 k2y] (b : k1x ≤ 9000 ∧ k1y ≤ 9000 ∧ k2x ≤ 9000 ∧ k2y ≤ 9000) (hv : Hid ((decide (x1 = x2) && decide (y1 = y2)) = v)) :
  Calls Tryz.prog 61 #[.agg #[.bool g1x, .slice a1x l1x c1x, .slice aa1x ll1x cc1x, .bool g1y, .slice a1y l1y c1y, .slice aa1y ll1y cc1y], .agg #[.bool g2x, .slice a2x l2x c2x, .slice aa2x ll2x cc2x, .bool g2y, .slice a2y l2y c2y, .slice aa2y ll2y cc2y]] w (fun e w' => e = .returned (.bool v) ∧ Below w.heap.size w w') := by
 rw [← hv.out]; exact Qj2 b
theorem Zf [ht : Ct w t] : Calls Tryz.prog 58 #[.pointer (some ⟨t, 0, none⟩)] w (Sq w t 4) := by
 go_enter Tryz.func58, Tryz.ntmps58; go_wp2_with fail
 refine Oo O7 ?_
 intro W1 _ _ g a l c aa ll cc g2 a2 l2 c2 aa2 ll2 cc2 m n _ _ hmn; obtain ⟨v, hv⟩ : ∃ v, (decide (((m : Int) : Rat) = ((0 : Int) : Rat)) && decide (((n : Int) : Rat) = ((0 : Int) : Rat))) = v := ⟨_, rfl⟩; have HV := Lib.hid hv; clear hv
 cases v with
 | true =>
  go_wp2_with (first
   | (go_at_call 61; refine Aa (It (by omega) HV) ?_; intros)
   | (go_at_call 28; refine Dk (D9 (by omega)) ?_; intros))
  refine Ac rfl Tryz.underlying40 rfl (by kernel_rfl) rfl rfl rfl ?_
  exact ⟨_, _, _, _, _, _, _, _, _, _, _, _, _, _, 1, 0, rfl, ii, ii, ⟨by omega, by omega, by omega, by omega, by omega⟩, ii, ii⟩
 | false =>
  have hz : ¬ (m = 0 ∧ n = 0) := fun h => by have := HV.out; rw [h.1, h.2] at this; revert this; decide +kernel
  have HZ := Lib.hid hz; clear hz
  go_wp2_with (first
   | (go_at_call 61; refine Aa (It (by omega) HV) ?_; intros))
  refine Ac rfl Tryz.underlying40 rfl (by kernel_rfl) rfl rfl rfl ?_; exact ⟨_, _, _, _, _, _, _, _, _, _, _, _, _, _, _, _, rfl, ii, ii, ⟨hmn.out.1, hmn.out.2.1, hmn.out.2.2.1, hmn.out.2.2.2, HZ.out⟩, ii, ii⟩
end
end Go.Proofs.YtpnpnlmlamfpmaaGreatDoor
