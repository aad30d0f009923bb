/-
  Texts of this claim, joined: Rg11, Rg12, Rg13, Rg14.
-/
import Derived.Test.YtdlnoeegboapkaaGreatDoorCM
import Derived.Test.YtdlnoeegboapkaaGreatDoorCL
import Derived.Test.YtdlnoeegboapkaaGreatDoorCN
namespace Go.Proofs.YtdlnoeegboapkaaGreatDoor
open Go.RowKit
set_option linter.unusedVariables false
set_option maxHeartbeats 40000000
set_option maxRecDepth 100000
set_option synthInstance.maxHeartbeats 1000000
set_option synthInstance.maxSize 100000
section
def FgBRet (w : World) (F : FG) (k : Nat) (e : Ending) (w' : World) : Prop := ∃ nx dx px ny dy py nz dz pz nu du pu nv dv pv, e = .returned (.tuple #[.agg #[.int .i64 nx, .int .i64 dx, .pointer px, .int .i64 ny, .int .i64 dy, .pointer py, .int .i64 nz, .int .i64 dz, .pointer pz, .int .i64 nu, .int .i64 du, .pointer pu, .int .i64 nv, .int .i64 dv, .pointer pv, .bool false, .bool false], .bool true]) ∧ CF w' (.agg #[.int .i64 nx, .int .i64 dx, .pointer px]) (((F.a : Int) : Rat)) k ∧ CF w' (.agg #[.int .i64 ny, .int .i64 dy, .pointer py]) (((F.b : Int) : Rat)) k ∧ CF w' (.agg #[.int .i64 nz, .int .i64 dz, .pointer pz]) (((F.c : Int) : Rat)) k ∧ CF w' (.agg #[.int .i64 nu, .int .i64 du, .pointer pu]) (F.lo) k ∧ CF w' (.agg #[.int .i64 nv, .int .i64 dv, .pointer pv]) (F.hi) k ∧ Below w.heap.size w w'
theorem Calls.cFgB {P : Program} {f : FuncId} {args : Array Value} {w : World} {F : FG} {k : Nat} {K : Ending → World → Prop} (h : Calls P f args w (FgBRet w F k))
    (hK : ∀ w' [Kp1 w w'] (nx : Int) (dx : Int) (px : Option Addr) (ny : Int) (dy : Int) (py : Option Addr) (nz : Int) (dz : Int) (pz : Option Addr) (nu : Int) (du : Int) (pu : Option Addr) (nv : Int) (dv : Int) (pv : Option Addr) [CF w' (.agg #[.int .i64 nx, .int .i64 dx, .pointer px]) (((F.a : Int) : Rat)) k] [CF w' (.agg #[.int .i64 ny, .int .i64 dy, .pointer py]) (((F.b : Int) : Rat)) k] [CF w' (.agg #[.int .i64 nz, .int .i64 dz, .pointer pz]) (((F.c : Int) : Rat)) k] [CF w' (.agg #[.int .i64 nu, .int .i64 du, .pointer pu]) (F.lo) k] [CF w' (.agg #[.int .i64 nv, .int .i64 dv, .pointer pv]) (F.hi) k], K (.returned (.tuple #[.agg #[.int .i64 nx, .int .i64 dx, .pointer px, .int .i64 ny, .int .i64 dy, .pointer py, .int .i64 nz, .int .i64 dz, .pointer pz, .int .i64 nu, .int .i64 du, .pointer pu, .int .i64 nv, .int .i64 dv, .pointer pv, .bool false, .bool false], .bool true])) w') : Calls P f args w K := by
  refine h.mono ?_
  rintro e w' ⟨nx, dx, px, ny, dy, py, nz, dz, pz, nu, du, pu, nv, dv, pv, rfl, hx, hy, hz, hu, hv, hb⟩
  exact @hK w' ⟨hb⟩ nx dx px ny dy py nz dz pz nu du pu nv dv pv hx hy hz hu hv
theorem FgBRet.fin {w w' : World} {F : FG} {nx : Int} {dx : Int} {px : Option Addr} {ny : Int} {dy : Int} {py : Option Addr} {nz : Int} {dz : Int} {pz : Option Addr} {nu : Int} {du : Int} {pu : Option Addr} {nv : Int} {dv : Int} {pv : Option Addr} {sx : Rat} {kx : Nat} {sy : Rat} {ky : Nat} {sz : Rat} {kz : Nat} {su : Rat} {ku : Nat} {sv : Rat} {kv : Nat} {k : Nat} [b : Kp w w'] [hx : CF w' (.agg #[.int .i64 nx, .int .i64 dx, .pointer px]) sx kx] [hy : CF w' (.agg #[.int .i64 ny, .int .i64 dy, .pointer py]) sy ky] [hz : CF w' (.agg #[.int .i64 nz, .int .i64 dz, .pointer pz]) sz kz] [hu : CF w' (.agg #[.int .i64 nu, .int .i64 du, .pointer pu]) su ku] [hv : CF w' (.agg #[.int .i64 nv, .int .i64 dv, .pointer pv]) sv kv] (ex : sx = ((F.a : Int) : Rat)) (mx : kx ≤ k) (ey : sy = ((F.b : Int) : Rat)) (my : ky ≤ k) (ez : sz = ((F.c : Int) : Rat)) (mz : kz ≤ k) (eu : su = F.lo) (mu : ku ≤ k) (ev : sv = F.hi) (mv : kv ≤ k) : FgBRet w F k (.returned (.tuple #[.agg #[.int .i64 nx, .int .i64 dx, .pointer px, .int .i64 ny, .int .i64 dy, .pointer py, .int .i64 nz, .int .i64 dz, .pointer pz, .int .i64 nu, .int .i64 du, .pointer pu, .int .i64 nv, .int .i64 dv, .pointer pv, .bool false, .bool false], .bool true])) w' :=
  ⟨_, _, _, _, _, _, _, _, _, _, _, _, _, _, _, rfl, hx.cast ex mx, hy.cast ey my, hz.cast ez mz, hu.cast eu mu, hv.cast ev mv, b.out⟩
theorem segG_r {p q : Rat × Rat} (h : p ≠ q) : lnK (thA p.2 q.2) (thA p.2 q.2) (q.1 - p.1) (thC p.1 p.2 q.1 q.2) = (((segG p q).a : Int) : Rat) ∧ lnK (q.1 - p.1) (thA p.2 q.2) (q.1 - p.1) (thC p.1 p.2 q.1 q.2) = (((segG p q).b : Int) : Rat) ∧ lnK (thC p.1 p.2 q.1 q.2) (thA p.2 q.2) (q.1 - p.1) (thC p.1 p.2 q.1 q.2) = (((segG p q).c : Int) : Rat) := by
  obtain ⟨A, B, C, e1, e2, e3, _⟩ := lnK_valid (c := thC p.1 p.2 q.1 q.2) (th_ne2 h)
  have d1 : (segG p q).a = A := by show (lnK _ _ _ _).num = A; rw [← e1]; rfl
  have d2 : (segG p q).b = B := by show (lnK _ _ _ _).num = B; rw [← e2]; rfl
  have d3 : (segG p q).c = C := by show (lnK _ _ _ _).num = C; rw [← e3]; rfl
  rw [d1, d2, d3]; exact ⟨e1.symm, e2.symm, e3.symm⟩
theorem gSegC {w : World} {n1x d1x n1y d1y n2x d2x n2y d2y : Int} {p1x p1y p2x p2y : Option Addr} {x1 y1 x2 y2 : Rat} {k1x k1y k2x k2y : Nat} [h1x : CF w (.agg #[.int .i64 n1x, .int .i64 d1x, .pointer p1x]) x1 k1x] [h1y : CF w (.agg #[.int .i64 n1y, .int .i64 d1y, .pointer p1y]) y1 k1y] [h2x : CF w (.agg #[.int .i64 n2x, .int .i64 d2x, .pointer p2x]) x2 k2x] [h2y : CF w (.agg #[.int .i64 n2y, .int .i64 d2y, .pointer p2y]) y2 k2y] (b : k1x ≤ 600 ∧ k1y ≤ 600 ∧ k2x ≤ 600 ∧ k2y ≤ 600) {k : Nat} (hk : k1x ≤ k ∧ k1y ≤ k ∧ k2x ≤ k ∧ k2y ≤ k) (hk2 : k ≤ 10) (hne : Hid ((x1, y1) ≠ (x2, y2))) :
    Calls Tryz.prog 151 #[.agg #[.int .i64 n1x, .int .i64 d1x, .pointer p1x, .int .i64 n1y, .int .i64 d1y, .pointer p1y], .agg #[.int .i64 n2x, .int .i64 d2x, .pointer p2x, .int .i64 n2y, .int .i64 d2y, .pointer p2y]] w (FgBRet w (segG (x1, y1) (x2, y2)) (482 * k + 1230)) := by
  have h0 : Hid (¬ (thA y1 y2 = 0 ∧ x2 - x1 = 0)) := Lib.hid (th_ne2 hne.out)
  obtain ⟨e1, e2, e3⟩ := segG_r hne.out; have E1 := Lib.hid e1; have E2 := Lib.hid e2; have E3 := Lib.hid e3; clear e1 e2 e3; go_enter Tryz.func151, Tryz.ntmps151
  go_wp2_with (first
    | (go_at_call 207; (with_reducible refine Calls.cLFB (gThroughOk (by omega) h0) ?_); intro w1 _ nx dx px ny dy py nz dz pz ix iy iz; rw [E1.out] at ix; rw [E2.out] at iy; rw [E3.out] at iz))
  refine rgn [w.heap.size + 1 + 1] [] fun hH => ?_; refine tk 0 hH ?_; refine tk 1 hH ?_; refine tk 2 hH ?_; refine tk 4 hH ?_; refine tk 5 hH ?_; refine st 3 fun K hK => ?_; go_simp; (with_reducible refine Calls.cF (lnParamC (by omega)) ?_); intros; refine hd hK ?_; clear hH hK K; intro hH; refine st 6 fun K hK => ?_; go_simp; (with_reducible refine Calls.cF (lnParamC (by omega)) ?_); intros; refine hd hK ?_; clear hH hK K; intro hH; refine tk 7 hH ?_; refine tk 8 hH ?_; refine st 9 fun K hK => ?_; go_simp; refine hd hK ?_; clear hH hK K; intro hH; refine tk 10 hH ?_; refine dn ?_; clear hH; go_wp2
  refine ret_b9 rfl Tryz.underlying182 rfl (by kernel_rfl) rfl rfl rfl ?_
  exact FgBRet.fin rfl (by omega) rfl (by omega) rfl (by omega) rfl (by omega) rfl (by omega)
end
section
attribute [local go_sem] Oper.semAt_some
class Nc1 (W : outParam World) (W2 : World) : Prop where
  size : W.heap.size ≤ W2.heap.size
  cells : ∀ {b : Nat} {l : Array Value} {t : TypeId} {z : Nat × Nat}, W.heap[b]? = some (.cells l t z) → W2.heap[b]? = some (.cells l t z)
section
variable {W W2 w0 w : World}
theorem Nc1.of {row : Option Nat} (h : W.grownBy W2 row) (hr : ∀ r, row = some r → ∃ o : Obj, W.heap[r]? = some o ∧ o.isCells = false) : Nc1 W W2 :=
  ⟨h.size, fun {b l t z} hb => by
    rw [h.block b (Array.getElem?_eq_some_iff.1 hb).1 (fun e => ?_)]
    · exact hb
    · obtain ⟨o, ho, hc⟩ := hr b e.symm; rw [hb] at ho
      cases ho
      cases hc⟩
theorem Nc1.cell (k : Nc1 W W2) {a : Addr} {v : Value} (h : W.cell? a = some v) : W2.cell? a = some v := by
  unfold World.cell? at h ⊢
  match hb : W.heap[a.block]? with
  | none => rw [hb] at h; simp at h
  | some o =>
    rw [hb] at h
    cases o with
    | cells l t z => rw [k.cells hb]; exact h
    | _ => simp at h
theorem Rd.nc {v : Value} {l : List Nat} (h : Rd W v l) (k : Nc1 W W2) : Rd W2 v l := by
  obtain ⟨a, cap, rfl, h1, h2, h3, h4⟩ := h
  refine ⟨a, cap, rfl, h1, h2, h3, fun h0 => ?_⟩
  obtain ⟨b, off, rfl, hcell⟩ := h4 h0
  exact ⟨b, off, rfl, fun j hj => k.cell (hcell j hj)⟩
theorem Pres.nc (k : Nc1 W W2) : Pres W W2 := ⟨fun h => ⟨h.1.nc k, h.2⟩, fun h => by obtain ⟨l, h1, h2⟩ := h; exact ⟨l, h1.nc k, h2⟩, fun {b l} y => k.cells y⟩
instance (priority := low) CF.nc {v : Value} {q : Rat} {k : Nat} [b : Nc1 W W2] [h : CF W v q k] : CF W2 v q k := ⟨h.out.map (Pres.nc b)⟩
instance (priority := low) Bx.nc {b : Nat} {t : TypeId} {l : List Value} [k : Nc1 W W2] [h : Bx W b t l] : Bx W2 b t l := ⟨k.cells h.out⟩
theorem Rn.nc {v : Value} {e : TypeId} {sz n base : Nat} {xs : List Value} (h : Rn W v e sz n xs base w0) (k : Nc1 W W2) : Rn W2 v e sz n xs base w0 :=
  h.keep k.size (fun g hg => by
    obtain ⟨t, l, h1, _⟩ := (h.nd g hg).out
    rw [h1]; exact k.cells h1)
theorem FsG.nc {V : List GV} {L : List FG} {k : Nat} (h : FsG W V L k) [b : Nc1 W W2] : FsG W2 V L k := ⟨h.len, fun i hi => by have := h.x i hi; infer_instance, fun i hi => by have := h.y i hi; infer_instance, fun i hi => by have := h.z i hi; infer_instance, fun i hi => by have := h.u i hi; infer_instance, fun i hi => by have := h.v i hi; infer_instance⟩
instance FsG.dp {V : List GV} {L : List FG} {k : Nat} {D : Nat} [b : Dp1 W W2 D] [h : FsG W V L k] : FsG W2 V L k := ⟨h.len, fun i hi => by have := h.x i hi; infer_instance, fun i hi => by have := h.y i hi; infer_instance, fun i hi => by have := h.z i hi; infer_instance, fun i hi => by have := h.u i hi; infer_instance, fun i hi => by have := h.v i hi; infer_instance⟩
end
class Keo (w W : World) : Prop where out : KeepsOthers w W
section
variable {w W W2 : World}
instance Keo.rf : Keo w w := ⟨KeepsOthers.refl w⟩
instance Keo.al {o : Obj} [h : Keo w W] : Keo w (W.alloc o) := ⟨h.out.trans (KeepsOthers.alloc W o)⟩
instance Keo.st {a : Addr} {v : Value} [h : Keo w W] : Keo w (W.setCell a v) := ⟨h.out.trans (KeepsOthers.setCell W a v)⟩
instance (priority := low) Keo.kp [k : Kp1 W W2] [h : Keo w W] : Keo w W2 := ⟨h.out.trans (KeepsOthers.of_grownBy (row := none) (below_gb k.out) (fun j o e => by cases e))⟩
instance (priority := low) Keo.apn [k : Apn W W2] [h : Keo w W] : Keo w W2 := ⟨h.out.trans (by
  obtain ⟨row, h1, h2⟩ := k.out
  refine KeepsOthers.of_grownBy h1 (fun j o e ho => ?_)
  obtain ⟨t, l, h3, _⟩ := (h2 j e).out; rw [h3] at ho
  cases ho
  rfl)⟩
end
theorem app_rnI {F : Fence} {nn : Nat} {W w0 : World} {ops : Array Oper} {rest : List Oper} {o : Oper} {a : Act} {Q : Exit → Act → World → Prop} (hg : o.guard = none) (s x : Operand) (t : TypeId)
    (hop : o.op = .call { callee := .builtin .append, args := #[s, x], argTypes := #[t, t] }) {e : TypeId} (ht : Tryz.prog.underlying t = some (.slice e)) {z : Value} {sz bt : Nat}
    (hi : (Tryz.prog.info? e).map (fun i => (i.zero, i.size, i.bytes)) = some (some z, sz, bt)) (hzs : z.cells.size = sz) (hsz : 0 < sz) (hbt : bt ≤ 1000) (hz0 : ∀ u ∈ z.cells.toList, isDigit32 u = false) (he : BoxT e) {v : Value} {n : Nat} {xs : List Value} {base : Nat} (hs : a.eval s = v) [hr : Rn W v e sz n xs base w0]
    (hnx : ∀ u ∈ xs, isDigit32 u = false) {ad : Addr} {m c : Nat} {l : List Value} (hx : a.eval x = .slice (some ad) m c) (hb : ∀ j u, l[j]? = some u → W.cell? (ad.add j) = some u) (hl : l.length = m * sz) (h1 : ∀ u ∈ l, u.oneCell' = true) (hnl : ∀ u ∈ l, isDigit32 u = false) (hm : 0 < m) (hn : n + m ≤ 1000000)
    (hK : ∀ g c W' [Ap1 W W' base w0] [Apn W W'] [Rn W' (.slice (some ⟨g, 0, none⟩) (n + m) c) e sz (n + m) (xs ++ l) base W'], wpListIn F nn Tryz.prog ops Q rest (a.put o.dst (.slice (some ⟨g, 0, none⟩) (n + m) c)) W') :
    wpListIn F nn Tryz.prog ops Q (o :: rest) a W := by
  obtain ⟨i0, hi0⟩ : ∃ i0, Tryz.prog.info? e = some i0 := by
    cases h : Tryz.prog.info? e with
    | none => rw [h] at hi; cases hi
    | some i0 => exact ⟨i0, rfl⟩
  rw [hi0] at hi; simp only [Option.map_some, Option.some.injEq, Prod.mk.injEq] at hi; obtain ⟨hz, hsz', hbt'⟩ := hi
  have hby : (n + m) * bt ≤ 140737488355328 := by
    have : (n + m) * bt ≤ 1000000 * 1000 := Nat.mul_le_mul hn hbt
    omega
  have hmx : n + m ≤ maxLen := by unfold maxLen; omega
  refine wpListIn_plain hg fun K hKK => ?_
  obtain ⟨v', w', hrun, h2, h3, h4⟩ := run_append_own (P := Tryz.prog) W base t o.type e i0 z sz bt ht hi0 hz hsz' hbt' hzs hsz v n xs hr.rw'.out ad m c l hl hb h1 hmx hby hr.rw'.hb
  have hsoft := append_nd (P := Tryz.prog) W t o.type e i0 z ht hi0 hz he (base := base) (by rw [hsz']; exact hr.rw'.out) hr.nd hnx ad m c l (by rw [hsz']; exact hl) hb h1 hnl hz0 hmx (by rw [hbt']; exact hby) hrun
  have hne : v' ≠ .slice none 0 0 := fun e => by have := (h4.1 e).2; omega
  rcases h2.2 with ⟨e', _⟩ | ⟨g, cap, cur, e', _⟩
  · exact absurd e' hne
  · subst e'
    unfold Oper.wpIn
    refine ⟨by simp [Oper.about, hop, resolve, Target.leads, Sem.run_pure], ?_⟩
    rw [Oper.semAt_plain F _ _ (by rw [hop]; intro c hc'; cases hc')]; simp [execOp, hop, resolve, invoke, builtin, hs, hx, hrun, Result.andThen]
    have i1 : Ap1 W w' base w0 := ⟨⟨_, h3, fun k hk => ⟨(hr.rw'.out.lt k hk).1, hr.rw'.lt k hk⟩⟩⟩
    have i2 : Apn W w' := ⟨⟨_, h3, hr.nd⟩⟩
    have i3 : Rn w' (.slice (some ⟨g, 0, none⟩) (n + m) cap) e sz (n + m) (xs ++ l) base w' := ⟨Rw.mk1 h2 (Nat.le_trans hr.rw'.hb h3.size), hsoft⟩
    exact hKK _ _ (@hK g cap w' i1 i2 i3)
theorem app_rnI1 {F : Fence} {nn : Nat} {W w0 : World} {ops : Array Oper} {rest : List Oper} {o : Oper} {a : Act} {Q : Exit → Act → World → Prop} (hg : o.guard = none) (s x : Operand) (t : TypeId)
    (hop : o.op = .call { callee := .builtin .append, args := #[s, x], argTypes := #[t, t] }) {e : TypeId} (ht : Tryz.prog.underlying t = some (.slice e)) {z : Value} {sz bt : Nat}
    (hi : (Tryz.prog.info? e).map (fun i => (i.zero, i.size, i.bytes)) = some (some z, sz, bt)) (hzs : z.cells.size = sz) (hsz : 0 < sz) (hbt : bt ≤ 1000) (hz0 : ∀ u ∈ z.cells.toList, isDigit32 u = false) (he : BoxT e) {v : Value} {n : Nat} {xs : List Value} {base : Nat} (hs : a.eval s = v) [hr : Rn W v e sz n xs base w0]
    (hnx : ∀ u ∈ xs, isDigit32 u = false) {q : Nat} {ety : TypeId} {l : List Value} (hx : a.eval x = .slice (some ⟨q, 0, none⟩) 1 1) [hb : Bx W q ety l] (hl : l.length = sz) (h1 : ∀ u ∈ l, u.oneCell' = true) (hnl : ∀ u ∈ l, isDigit32 u = false) (hn : n + 1 ≤ 1000000)
    (hK : ∀ g c W' [Ap1 W W' base w0] [Apn W W'] [Rn W' (.slice (some ⟨g, 0, none⟩) (n + 1) c) e sz (n + 1) (xs ++ l) base W'], wpListIn F nn Tryz.prog ops Q rest (a.put o.dst (.slice (some ⟨g, 0, none⟩) (n + 1) c)) W') :
    wpListIn F nn Tryz.prog ops Q (o :: rest) a W :=
  app_rnI hg s x t hop ht hi hzs hsz hbt hz0 he hs hnx hx (fun j u hu => by
    have hadd : (⟨q, 0, none⟩ : Addr).add j = ⟨q, j, none⟩ := by unfold Addr.add; split <;> simp_all
    rw [hadd, cell_bx]; exact hu) (by omega) h1 hnl (by omega) hn hK
def edgesL (L : List (Rat × Rat)) : List FG := (List.range L.length).map (edgeF L)
theorem fin_map {A : Type} (n : Nat) (f : Nat → A) : (List.finRange n).map (fun i => f i.val) = (List.range n).map f := by
  apply List.ext_getElem <;> simp
theorem FsG.cast2 {W : World} {V : List GV} {L : List FG} {F F2 : FG} {k : Nat} (h : FsG W V (L ++ [⟨F.a, F.b, F.c, F.lo, F.hi⟩]) k) (e : F2 = F) : FsG W V (L ++ [F2]) k := by subst e; exact h
instance : BoxT 143 := by constructor <;> decide
theorem frsC {w w0 : World} {a : Option Addr} {n c : Nat} {V : List FV} {L : List (Rat × Rat)} {k : Nat} [hs : Sl w (.slice a n c) V.length (rowF V) w0] [hp : PsF w V L k] (hk : k ≤ 10) (hV : V.length ≤ 1000) (h0 : 0 < V.length) (hE : ∀ i, i < L.length → pg L i ≠ pg L ((i + 1) % L.length)) :
    Calls Tryz.prog 90 #[.slice a n c] w (FsGRet w (edgesL L) (482 * k + 1230)) := by
  obtain rfl := hs.len; have hlen := Lib.hid hp.len; have HE := Lib.hid hE; clear hE; obtain ⟨g, rfl, hA0⟩ := hs.form h0
  have hA : At w g (rowF V) w := ⟨hA0.out, hA0.ltW, hA0.ltW⟩
  clear hA0 hs
  refine calls_marks Tryz.func90 rfl ?_
  simp only [Tryz.ntmps90, List.size_toArray, List.length_cons, List.length_nil, Nat.reduceAdd, Nat.reduceSub, Array.replicate_succ, Array.replicate_zero, List.push_toArray, List.append_toArray, List.nil_append, List.cons_append]
  go_wp2_with (first
    | (go_at_call 145; (with_reducible refine Calls.cEdges edgesC ?_); intro w1 _ br _))
  have hsz : w.heap.size ≤ w1.heap.size := (inferInstance : Kp w w1).out.size
  have ne1 : NeN w.heap.size br := ⟨fun e => by
    have h1 := (inferInstance : Bx w1 br 131 [.slice (some ⟨g, 0, none⟩) V.length c]).out
    have h2 := (inferInstance : Bx w1 w.heap.size 143 [.slice none 0 0]).out
    rw [← e, h2] at h1
    simp at h1⟩
  have lt1 : LtN br w1.heap.size := inferInstance
  have lt2 : LtN w.heap.size w1.heap.size := inferInstance
  have ge1 : Ge w w1.heap.size := ⟨hsz⟩
  refine range_edges2 w (n := 5) (by omega) rfl (by omega) (V := V) (Br := br) (g := g) (c := c) rfl (fun T x b => ((T.setIfInBounds 10 (.int .i64 (x.val : Int))).setIfInBounds 11 (.agg (edL V x.val).toArray)).setIfInBounds 5 (.pointer (some ⟨b, 0, none⟩)))
    (fun pre W => Below w.heap.size w W ∧ ∃ (U : List GV) (o : Value), Rn W o 182 17 U.length (rowG U) w1.heap.size W ∧ Hid (U.length = pre.length) ∧ FsG W U (pre.map fun i => edgeF L i.val) (482 * k + 1230) ∧ Bx W w.heap.size 143 [o]) (fun _ _ _ => False) (OwnFrom.and (ownFrom_below (Nat.le_refl _) hsz) ?own) (fun _ _ _ _ _ h _ _ => h.elim) ?start ?assign ?keep ?size ?body ?done ?stop
  case own =>
    rintro pre W W' row ⟨U, o, h1, h2, h3, h4⟩ hg hr
    have nc : Nc1 W W' := Nc1.of hg (fun r e => (hr r e).2)
    exact ⟨U, o, (h1.nc nc).here, h2, h3.nc, inferInstance⟩
  case start => exact ⟨(inferInstance : Kp w w1).out, [], .slice none 0 0, Rn.nil (Nat.le_refl _), Lib.hid rfl, FsG.nil, inferInstance⟩
  case keep =>
    rintro pre W W' ⟨h0, U, o, h1, h2, h3, h4⟩ hk
    have k1 : Kp1 W W' := ⟨hk.out⟩
    exact ⟨h0.trans (hk.out.mono h0.size), U, o, Rn.here inferInstance, h2, inferInstance, inferInstance⟩
  case size => exact fun pre W ⟨_, U, o, h1, _⟩ => h1.rw'.hb
  case assign =>
    intro l pre x W K hI hK; simp only [encE, edL, List.zip_toArray, List.zip_cons_cons, List.zip_nil_right, List.foldl_toArray, List.foldl_cons, List.foldl_nil, List.setIfInBounds_toArray, List.set_cons_zero, List.set_cons_succ]; simp only [edL, List.setIfInBounds_toArray, List.set_cons_zero, List.set_cons_succ] at hK
    gi_wp2
    refine hK _ _ rfl ?_ ?_
    · infer_instance
    · exact Bx.re rfl
  case body =>
    rintro l pre x b W ⟨hI, U, o, h1, h2, h3, h4⟩ hb hx hlt9
    have kw1 : Kp1 w W := ⟨hI⟩
    have nd1 : Ndl [o] := by obtain ⟨_, _, rfl⟩ := h1.slice; infer_instance
    obtain ⟨m, hm0⟩ : ∃ m, (x.val + 1) % V.length = m := ⟨_, rfl⟩; have lq : LtN x.val V.length := ⟨x.isLt⟩
    have lm : LtN m V.length := ⟨by rw [← hm0]; exact Nat.mod_lt _ (by omega)⟩
    have hne : Hid (((pg L x.val).1, (pg L x.val).2) ≠ ((pg L m).1, (pg L m).2)) := Lib.hid (by
      have := HE.out x.val (by rw [← hlen.out]; exact x.isLt)
      rw [← hlen.out, hm0] at this
      exact this)
    dsimp only [edL] at hx ⊢
    rw [hm0] at hx ⊢; simp only [List.setIfInBounds_toArray, List.set_cons_zero, List.set_cons_succ]
    gi_wp2_with (first
      | (refine ⟨trivial, ?_⟩; gi_at_call 151; (refine inR ?_); (with_reducible refine Calls.cFgB (gSegC (k := k) (by omega) (by omega) (by omega) hne) ?_); intro w2 _ nx dx px ny dy py nz dz pz nu du pu nv dv pv _ _ _ _ _)
      | (gi_at_builtin; go_loud (refine app_rnI1 (v := o) rfl (.tmp 20) (.tmp 22) 143 rfl Tryz.underlying143 info_gr rfl (by decide) (by decide) (by decide) inferInstance rfl (rowG_nd _) rfl (by rfl) ?h1 ?h2 (by have := h2.out; omega) ?_); (case h1 => exact GV.one ⟨_, _, _, _, _, _, _, _, _, _, _, _, _, _, _⟩); (case h2 => exact GV.nd ⟨_, _, _, _, _, _, _, _, _, _, _, _, _, _, _⟩); intro g2 c2 w3 i9 i10 i11))
    refine ⟨(inferInstance : Keo W _).out.from _, ⟨(inferInstance : Keo W _).out.size, fun y => inferInstance, fun y => inferInstance⟩, (inferInstance : Kp w _).out, U ++ [⟨nx, dx, px, ny, dy, py, nz, dz, pz, nu, du, pu, nv, dv, pv⟩], _, Rn.cast2 inferInstance (by simp) (by rw [rowG_snoc]; rfl), Lib.hid (by rw [List.length_append, List.length_append, h2.out]; rfl), ?_, Bx.re rfl⟩
    rw [List.map_append, List.map_cons, List.map_nil]; exact FsG.cast2 (FsG.add (Nat.le_refl _) (Nat.le_refl _) (Nat.le_refl _) (Nat.le_refl _) (Nat.le_refl _)) (by rw [edgeF, ← hlen.out, hm0])
  case done =>
    rintro D W hD ⟨hI, U, o, h1, h2, h3, h4⟩ hK
    have kw1 : Kp1 w W := ⟨hI⟩
    have gd : Ge w D := ⟨Nat.le_trans hsz hD⟩
    obtain ⟨oa, oc, rfl⟩ := h1.slice
    have sl := Sl.ofRn (h := h1)
    go_wp2
    refine retM_mark (D := D) rfl hK ?_
    have kd : Dp1 W (W.putObj D (.deferred none)) D := ⟨rfl, _, hK⟩
    go_ret
    exact FsGRet.fin (V := U) (by rw [edgesL, hlen.out]; exact fin_map _ _) (Nat.le_refl _)
  case stop => exact fun _ _ _ _ _ _ h _ => h.elim
end
section

end
section

end
end Go.Proofs.YtdlnoeegboapkaaGreatDoor
