import Derived.Test.YtpnpnlmlamfpmaaGreatDoorS30
import Derived.Test.YtpnpnlmlamfpmaaGreatDoorS33
namespace Go.Proofs.YtpnpnlmlamfpmaaGreatDoor
open Go.RowKit
set_option linter.unusedSimpArgs false
set_option linter.unusedVariables false
set_option maxRecDepth 100000
set_option synthInstance.maxHeartbeats 1000000
set_option synthInstance.maxSize 100000
section
set_option maxHeartbeats 40000000
def Se (w : World) (F : FG) (k : Nat) (e : Ending) (w' : World) : Prop := ∃ nx dx px ny dy py nz dz pz nu du pu nv dv pv, e = .returned (.tuple #[.agg #[.int .i64 nx, .int .i64 dx, .pointer px, .int .i64 ny, .int .i64 dy, .pointer py, .int .i64 nz, .int .i64 dz, .pointer pz, .int .i64 nu, .int .i64 du, .pointer pu, .int .i64 nv, .int .i64 dv, .pointer pv, .bool false, .bool false], .bool true]) ∧ CF w' (.agg #[.int .i64 nx, .int .i64 dx, .pointer px]) (((F.a : Int) : Rat)) k ∧ CF w' (.agg #[.int .i64 ny, .int .i64 dy, .pointer py]) (((F.b : Int) : Rat)) k ∧ CF w' (.agg #[.int .i64 nz, .int .i64 dz, .pointer pz]) (((F.c : Int) : Rat)) k ∧ CF w' (.agg #[.int .i64 nu, .int .i64 du, .pointer pu]) (F.lo) k ∧ CF w' (.agg #[.int .i64 nv, .int .i64 dv, .pointer pv]) (F.hi) k ∧ Below w.heap.size w w'
variable {F : FG} {k : Nat} {w : World}
theorem Qea {P : Program} {f : FuncId} {args : Array Value} {K : Ending → World → Prop} (h : Calls P f args w (Se w F k))
  (hK : ∀ w' [Kp1 w w'] (nx : Int) (dx : Int) (px : Option Addr) (ny : Int) (dy : Int) (py : Option Addr) (nz : Int) (dz : Int) (pz : Option Addr) (nu : Int) (du : Int) (pu : Option Addr) (nv : Int) (dv : Int) (pv : Option Addr) [CF w' (.agg #[.int .i64 nx, .int .i64 dx, .pointer px]) (((F.a : Int) : Rat)) k] [CF w' (.agg #[.int .i64 ny, .int .i64 dy, .pointer py]) (((F.b : Int) : Rat)) k] [CF w' (.agg #[.int .i64 nz, .int .i64 dz, .pointer pz]) (((F.c : Int) : Rat)) k] [CF w' (.agg #[.int .i64 nu, .int .i64 du, .pointer pu]) (F.lo) k] [CF w' (.agg #[.int .i64 nv, .int .i64 dv, .pointer pv]) (F.hi) k], K (.returned (.tuple #[.agg #[.int .i64 nx, .int .i64 dx, .pointer px, .int .i64 ny, .int .i64 dy, .pointer py, .int .i64 nz, .int .i64 dz, .pointer pz, .int .i64 nu, .int .i64 du, .pointer pu, .int .i64 nv, .int .i64 dv, .pointer pv, .bool false, .bool false], .bool true])) w') : Calls P f args w K := by
 refine h.mono ?_
 rintro e w' ⟨nx, dx, px, ny, dy, py, nz, dz, pz, nu, du, pu, nv, dv, pv, rfl, hx, hy, hz, hu, hv, hb⟩
 exact @hK w' ⟨hb⟩ nx dx px ny dy py nz dz pz nu du pu nv dv pv hx hy hz hu hv
theorem Se.fin {w' : World} {nx : Int} {dx : Int} {px : Option Addr} {ny : Int} {dy : Int} {py : Option Addr} {nz : Int} {dz : Int} {pz : Option Addr} {nu : Int} {du : Int} {pu : Option Addr} {nv : Int} {dv : Int} {pv : Option Addr} {sx : Rat} {kx : Nat} {sy : Rat} {ky : Nat} {sz : Rat} {kz : Nat} {su : Rat} {ku : Nat} {sv : Rat} {kv : Nat} [b : Kp w w'] [hx : CF w' (.agg #[.int .i64 nx, .int .i64 dx, .pointer px]) sx kx] [hy : CF w' (.agg #[.int .i64 ny, .int .i64 dy, .pointer py]) sy ky] [hz : CF w' (.agg #[.int .i64 nz, .int .i64 dz, .pointer pz]) sz kz] [hu : CF w' (.agg #[.int .i64 nu, .int .i64 du, .pointer pu]) su ku] [hv : CF w' (.agg #[.int .i64 nv, .int .i64 dv, .pointer pv]) sv kv] (ex : sx = ((F.a : Int) : Rat)) (mx : kx ≤ k) (ey : sy = ((F.b : Int) : Rat)) (my : ky ≤ k) (ez : sz = ((F.c : Int) : Rat)) (mz : kz ≤ k) (eu : su = F.lo) (mu : ku ≤ k) (ev : sv = F.hi) (mv : kv ≤ k) : Se w F k (.returned (.tuple #[.agg #[.int .i64 nx, .int .i64 dx, .pointer px, .int .i64 ny, .int .i64 dy, .pointer py, .int .i64 nz, .int .i64 dz, .pointer pz, .int .i64 nu, .int .i64 du, .pointer pu, .int .i64 nv, .int .i64 dv, .pointer pv, .bool false, .bool false], .bool true])) w' :=
 ⟨_, _, _, _, _, _, _, _, _, _, _, _, _, _, _, rfl, hx.cast ex mx, hy.cast ey my, hz.cast ez mz, hu.cast eu mu, hv.cast ev mv, b.out⟩
theorem Qep {p q : Rat × Rat} (h : p ≠ q) : lnK (thA p.2 q.2) (thA p.2 q.2) (q.1 - p.1) (thC p.1 p.2 q.1 q.2) = (((Ag p q).a : Int) : Rat) ∧ lnK (q.1 - p.1) (thA p.2 q.2) (q.1 - p.1) (thC p.1 p.2 q.1 q.2) = (((Ag p q).b : Int) : Rat) ∧ lnK (thC p.1 p.2 q.1 q.2) (thA p.2 q.2) (q.1 - p.1) (thC p.1 p.2 q.1 q.2) = (((Ag p q).c : Int) : Rat) := by
 obtain ⟨A, B, C, e1, e2, e3, _⟩ := Ju (c := thC p.1 p.2 q.1 q.2) (J9 h)
 have d1 : (Ag p q).a = A := by show (lnK _ _ _ _).num = A; rw [← e1]; rfl
 have d2 : (Ag p q).b = B := by show (lnK _ _ _ _).num = B; rw [← e2]; rfl
 have d3 : (Ag p q).c = C := by show (lnK _ _ _ _).num = C; rw [← e3]; rfl
 rw [d1, d2, d3]; exact ⟨e1.symm, e2.symm, e3.symm⟩
theorem Qel {n1x d1x n1y d1y n2x d2x n2y d2y : Int} {p1x p1y p2x p2y : Option Addr} {x1 y1 x2 y2 : Rat} {k1x k1y k2x k2y : Nat} [h1x : CF w (.agg #[.int .i64 n1x, .int .i64 d1x, .pointer p1x]) x1 k1x] [h1y : CF w (.agg #[.int .i64 n1y, .int .i64 d1y, .pointer p1y]) y1 k1y] [h2x : CF w (.agg #[.int .i64 n2x, .int .i64 d2x, .pointer p2x]) x2 k2x] [h2y : CF w (.agg #[.int .i64 n2y, .int .i64 d2y, .pointer p2y]) y2 k2y] (b : k1x ≤ 600 ∧ k1y ≤ 600 ∧ k2x ≤ 600 ∧ k2y ≤ 600) (hk : k1x ≤ k ∧ k1y ≤ k ∧ k2x ≤ k ∧ k2y ≤ k) (hk2 : k ≤ 10) (hne : Hid ((x1, y1) ≠ (x2, y2))) :
  Calls Tryz.prog 83 #[.agg #[.int .i64 n1x, .int .i64 d1x, .pointer p1x, .int .i64 n1y, .int .i64 d1y, .pointer p1y], .agg #[.int .i64 n2x, .int .i64 d2x, .pointer p2x, .int .i64 n2y, .int .i64 d2y, .pointer p2y]] w (Se w (Ag (x1, y1) (x2, y2)) (482 * k + 1230)) := by
 have h0 : Hid (¬ (thA y1 y2 = 0 ∧ x2 - x1 = 0)) := Lib.hid (J9 hne.out)
 obtain ⟨e1, e2, e3⟩ := Qep hne.out; have E1 := Lib.hid e1; have E2 := Lib.hid e2; have E3 := Lib.hid e3; clear e1 e2 e3; go_enter Tryz.func83, Tryz.ntmps83
 go_wp2_with (first
  | (go_at_call 121; refine Xz (Qdm (by omega) h0) ?_; intro w1 _ nx dx px ny dy py nz dz pz ix iy iz; rw [E1.out] at ix; rw [E2.out] at iy; rw [E3.out] at iz))
 refine rgn [w.heap.size + 1 + 1] [] fun hH => ?_; refine tk 0 hH ?_; refine tk 1 hH ?_; refine tk 2 hH ?_; refine tk 4 hH ?_; refine tk 5 hH (st 3 fun K hK => ?_); go_simp; refine Ab (Oa (by omega)) ?_; intros; refine hd hK fun hH => st 6 fun K hK => ?_; go_simp; refine Ab (Oa (by omega)) ?_; intros; refine hd hK fun hH => ?_; refine tk 7 hH ?_; refine tk 8 hH (st 9 fun K hK => ?_); go_simp; refine hd hK fun hH => ?_; refine tk 10 hH (dn ?_); clear hH; go_wp2
 refine Yw rfl Tryz.underlying165 rfl (by kernel_rfl) rfl rfl rfl ?_
 exact Se.fin rfl (by omega) rfl (by omega) rfl (by omega) rfl (by omega) rfl (by omega)
end
section
set_option maxHeartbeats 40000000
attribute [local go_sem] Oper.semAt_some
class Nc1 (W : outParam World) (W2 : World) : Prop where
 size : W.heap.size ≤ W2.heap.size
 cells : ∀ {b : Nat} {l : Array Value} {t : TypeId} {z : Nat × Nat}, W.heap[b]? = some (.cells l t z) → W2.heap[b]? = some (.cells l t z)
section
variable {W W2 w0 w : World}
theorem Nc1.of {row : Option Nat} (h : W.grownBy W2 row) (hr : ∀ r, row = some r → ∃ o : Obj, W.heap[r]? = some o ∧ o.isCells = false) : Nc1 W W2 :=
 ⟨h.size, fun {b l t z} hb => by
  rw [h.block b (Array.getElem?_eq_some_iff.1 hb).1 (fun e => ?_)]
  ·exact hb
  ·obtain ⟨o, ho, hc⟩ := hr b e.symm; rw [hb] at ho
   cases ho
   cases hc⟩
theorem Nc1.cell (k : Nc1 W W2) {a : Addr} {v : Value} (h : W.cell? a = some v) : W2.cell? a = some v := by
 unfold World.cell? at h ⊢
 match hb : W.heap[a.block]? with
 | none => rw [hb] at h; simp at h
 | some o =>
  rw [hb] at h
  cases o with
  | cells l t z => rw [k.cells hb]; exact h
  | _ => simp at h
theorem Rd.nc {v : Value} {l : List Nat} (h : Rd W v l) (k : Nc1 W W2) : Rd W2 v l := by
 obtain ⟨a, cap, rfl, h1, h2, h3, h4⟩ := h
 refine ⟨a, cap, rfl, h1, h2, h3, fun h0 => ?_⟩
 obtain ⟨b, off, rfl, hcell⟩ := h4 h0
 exact ⟨b, off, rfl, fun j hj => k.cell (hcell j hj)⟩
theorem Pres.nc (k : Nc1 W W2) : Pres W W2 := ⟨fun h => ⟨h.1.nc k, h.2⟩, fun h => by obtain ⟨l, h1, h2⟩ := h; exact ⟨l, h1.nc k, h2⟩, fun {b l} y => k.cells y⟩
instance (priority := low) CF.nc {v : Value} {q : Rat} {k : Nat} [b : Nc1 W W2] [h : CF W v q k] : CF W2 v q k := ⟨h.out.map (Pres.nc b)⟩
instance (priority := low) Bx.nc {b : Nat} {t : TypeId} {l : List Value} [k : Nc1 W W2] [h : Bx W b t l] : Bx W2 b t l := ⟨k.cells h.out⟩
theorem Rn.nc {v : Value} {e : TypeId} {sz n base : Nat} {xs : List Value} (h : Rn W v e sz n xs base w0) (k : Nc1 W W2) : Rn W2 v e sz n xs base w0 :=
 h.keep k.size (fun g hg => by
  obtain ⟨t, l, h1, _⟩ := (h.nd g hg).out
  rw [h1]; exact k.cells h1)
theorem FsG.nc {V : List GV} {L : List FG} {k : Nat} (h : FsG W V L k) [b : Nc1 W W2] : FsG W2 V L k := ⟨h.len, fun i hi => by have := h.x i hi; exact ii, fun i hi => by have := h.y i hi; exact ii, fun i hi => by have := h.z i hi; exact ii, fun i hi => by have := h.u i hi; exact ii, fun i hi => by have := h.v i hi; exact ii⟩
instance FsG.dp {V : List GV} {L : List FG} {k : Nat} {D : Nat} [b : Dp1 W W2 D] [h : FsG W V L k] : FsG W2 V L k := ⟨h.len, fun i hi => by have := h.x i hi; exact ii, fun i hi => by have := h.y i hi; exact ii, fun i hi => by have := h.z i hi; exact ii, fun i hi => by have := h.u i hi; exact ii, fun i hi => by have := h.v i hi; exact ii⟩
end
class Keo (w W : World) : Prop where out : KeepsOthers w W
section
variable {w W W2 : World}
instance Keo.rf : Keo w w := ⟨KeepsOthers.refl w⟩
instance Keo.al {o : Obj} [h : Keo w W] : Keo w (W.alloc o) := ⟨h.out.trans (KeepsOthers.alloc W o)⟩
instance Keo.st {a : Addr} {v : Value} [h : Keo w W] : Keo w (W.setCell a v) := ⟨h.out.trans (KeepsOthers.setCell W a v)⟩
instance (priority := low) Keo.kp [k : Kp1 W W2] [h : Keo w W] : Keo w W2 := ⟨h.out.trans (KeepsOthers.of_grownBy (row := none) (Fu k.out) (fun j o e => by cases e))⟩
instance (priority := low) Keo.apn [k : Apn W W2] [h : Keo w W] : Keo w W2 := ⟨h.out.trans (by
 obtain ⟨row, h1, h2⟩ := k.out
 refine KeepsOthers.of_grownBy h1 (fun j o e ho => ?_)
 obtain ⟨t, l, h3, _⟩ := (h2 j e).out; rw [h3] at ho
 cases ho
 rfl)⟩
end
variable {F : Fence} {Q : Exit → Act → World → Prop} {W w0 : World} {a : Act} {bt c k n nn sz : Nat} {e : TypeId} {l xs : List Value} {o : Oper} {ops : Array Oper} {rest : List Oper} {v z : Value}
theorem Qa5 (hg : o.guard = none) (s x : Operand) (t : TypeId)
  (hop : o.op = .call { callee := .builtin .append, args := #[s, x], argTypes := #[t, t] }) (ht : Tryz.prog.underlying t = some (.slice e))
  (hi : (Tryz.prog.info? e).map (fun i => (i.zero, i.size, i.bytes)) = some (some z, sz, bt)) (hzs : z.cells.size = sz) (hsz : 0 < sz) (hbt : bt ≤ 1000) (hz0 : ∀ u ∈ z.cells.toList, Am u = false) (he : BoxT e) {base : Nat} (hs : a.eval s = v) [hr : Rn W v e sz n xs base w0]
  (hnx : ∀ u ∈ xs, Am u = false) {ad : Addr} {m : Nat} (hx : a.eval x = .slice (some ad) m c) (hb : ∀ j u, l[j]? = some u → W.cell? (ad.add j) = some u) (hl : l.length = m * sz) (h1 : ∀ u ∈ l, u.oneCell' = true) (hnl : ∀ u ∈ l, Am u = false) (hm : 0 < m) (hn : n + m ≤ 1000000)
  (hK : ∀ g c W' [Ap1 W W' base w0] [Apn W W'] [Rn W' (.slice (some ⟨g, 0, none⟩) (n + m) c) e sz (n + m) (xs ++ l) base W'], wpListIn F nn Tryz.prog ops Q rest (a.put o.dst (.slice (some ⟨g, 0, none⟩) (n + m) c)) W') :
  wpListIn F nn Tryz.prog ops Q (o :: rest) a W := by
 obtain ⟨i0, hi0⟩ : ∃ i0, Tryz.prog.info? e = some i0 := by
  cases h : Tryz.prog.info? e with
  | none => rw [h] at hi; cases hi
  | some i0 => exact ⟨i0, rfl⟩
 rw [hi0] at hi; simp only [Option.map_some, Option.some.injEq, Prod.mk.injEq] at hi; obtain ⟨hz, hsz', hbt'⟩ := hi
 have hby : (n + m) * bt ≤ 140737488355328 := by
  have : (n + m) * bt ≤ 1000000 * 1000 := Nat.mul_le_mul hn hbt
  omega
 have hmx : n + m ≤ maxLen := by unfold maxLen; omega
 refine wpListIn_plain hg fun K hKK => ?_
 obtain ⟨v', w', hrun, h2, h3, h4⟩ := run_append_own (P := Tryz.prog) W base t o.type e i0 z sz bt ht hi0 hz hsz' hbt' hzs hsz v n xs hr.rw'.out ad m c l hl hb h1 hmx hby hr.rw'.hb
 have hsoft := J7 (P := Tryz.prog) W t o.type e i0 z ht hi0 hz he (base := base) (by rw [hsz']; exact hr.rw'.out) hr.nd hnx ad m c l (by rw [hsz']; exact hl) hb h1 hnl hz0 hmx (by rw [hbt']; exact hby) hrun
 have hne : v' ≠ .slice none 0 0 := fun e => by have := (h4.1 e).2; omega
 rcases h2.2 with ⟨e', _⟩ | ⟨g, cap, cur, e', _⟩
 ·exact absurd e' hne
 ·subst e'
  unfold Oper.wpIn
  refine ⟨by simp [Oper.about, hop, resolve, Target.leads, Sem.run_pure], ?_⟩
  rw [Oper.semAt_plain F _ _ (by rw [hop]; intro c hc'; cases hc')]; simp [execOp, hop, resolve, invoke, builtin, hs, hx, hrun, Result.andThen]
  have i1 : Ap1 W w' base w0 := ⟨⟨_, h3, fun k hk => ⟨(hr.rw'.out.lt k hk).1, hr.rw'.lt k hk⟩⟩⟩
  have i2 : Apn W w' := ⟨⟨_, h3, hr.nd⟩⟩
  have i3 : Rn w' (.slice (some ⟨g, 0, none⟩) (n + m) cap) e sz (n + m) (xs ++ l) base w' := ⟨Rw.mk1 h2 (Nat.le_trans hr.rw'.hb h3.size), hsoft⟩
  exact hKK _ _ (@hK g cap w' i1 i2 i3)
theorem Qbc (hg : o.guard = none) (s x : Operand) (t : TypeId)
  (hop : o.op = .call { callee := .builtin .append, args := #[s, x], argTypes := #[t, t] }) (ht : Tryz.prog.underlying t = some (.slice e))
  (hi : (Tryz.prog.info? e).map (fun i => (i.zero, i.size, i.bytes)) = some (some z, sz, bt)) (hzs : z.cells.size = sz) (hsz : 0 < sz) (hbt : bt ≤ 1000) (hz0 : ∀ u ∈ z.cells.toList, Am u = false) (he : BoxT e) {base : Nat} (hs : a.eval s = v) [hr : Rn W v e sz n xs base w0]
  (hnx : ∀ u ∈ xs, Am u = false) {q : Nat} {ety : TypeId} (hx : a.eval x = .slice (some ⟨q, 0, none⟩) 1 1) [hb : Bx W q ety l] (hl : l.length = sz) (h1 : ∀ u ∈ l, u.oneCell' = true) (hnl : ∀ u ∈ l, Am u = false) (hn : n + 1 ≤ 1000000)
  (hK : ∀ g c W' [Ap1 W W' base w0] [Apn W W'] [Rn W' (.slice (some ⟨g, 0, none⟩) (n + 1) c) e sz (n + 1) (xs ++ l) base W'], wpListIn F nn Tryz.prog ops Q rest (a.put o.dst (.slice (some ⟨g, 0, none⟩) (n + 1) c)) W') :
  wpListIn F nn Tryz.prog ops Q (o :: rest) a W :=
 Qa5 hg s x t hop ht hi hzs hsz hbt hz0 he hs hnx hx (fun j u hu => by
  have hadd : (⟨q, 0, none⟩ : Addr).add j = ⟨q, j, none⟩ := by unfold Addr.add; split <;> simp_all
  rw [hadd, B8]; exact hu) (by omega) h1 hnl (by omega) hn hK
def Bu (L : List (Rat × Rat)) : List FG := (List.range L.length).map (Jb L)
theorem Wg {A : Type} (n : Nat) (f : Nat → A) : (List.finRange n).map (fun i => f i.val) = (List.range n).map f := by
 apply List.ext_getElem <;> simp
theorem FsG.cast2 {V : List GV} {L : List FG} {F F2 : FG} (h : FsG W V (L ++ [⟨F.a, F.b, F.c, F.lo, F.hi⟩]) k) (e : F2 = F) : FsG W V (L ++ [F2]) k := by subst e; exact h
instance : BoxT 108 := by constructor <;> decide
theorem Qi3 {w : World} {a : Option Addr} {V : List FV} {L : List (Rat × Rat)} [hs : Sl w (.slice a n c) V.length (Ax V) w0] [hp : PsF w V L k] (hk : k ≤ 10) (hV : V.length ≤ 1000) (h0 : 0 < V.length) (hE : ∀ i, i < L.length → pg L i ≠ pg L ((i + 1) % L.length)) :
  Calls Tryz.prog 40 #[.slice a n c] w (Yn w (Bu L) (482 * k + 1230)) := by
 obtain rfl := hs.len; have hlen := Lib.hid hp.len; have HE := Lib.hid hE; clear hE; obtain ⟨g, rfl, hA0⟩ := hs.form h0
 have hA : At w g (Ax V) w := ⟨hA0.out, hA0.ltW, hA0.ltW⟩
 clear hA0 hs
 refine Pe Tryz.func40 rfl ?_
 simp only [Tryz.ntmps40, List.size_toArray, List.length_cons, List.length_nil, Nat.reduceAdd, Nat.reduceSub, Array.replicate_succ, Array.replicate_zero, List.push_toArray, List.append_toArray, List.nil_append, List.cons_append]
 go_wp2_with (first
  | (go_at_call 77; refine Od Sh ?_; intro w1 _ br _))
 have hsz : w.heap.size ≤ w1.heap.size := (ii : Kp w w1).out.size
 have ne1 : NeN w.heap.size br := ⟨fun e => by
  have h1 := (ii : Bx w1 br 91 [.slice (some ⟨g, 0, none⟩) V.length c]).out
  have h2 := (ii : Bx w1 w.heap.size 108 [.slice none 0 0]).out
  rw [← e, h2] at h1
  simp at h1⟩
 have lt1 : LtN br w1.heap.size := ii
 have lt2 : LtN w.heap.size w1.heap.size := ii
 have ge1 : Ge w w1.heap.size := ⟨hsz⟩
 refine Qai w (n := 5) (by omega) rfl (by omega) (V := V) (Br := br) (g := g) (c := c) rfl (fun T x b => ((T.setIfInBounds 10 (.int .i64 (x.val : Int))).setIfInBounds 11 (.agg (edL V x.val).toArray)).setIfInBounds 5 (.pointer (some ⟨b, 0, none⟩)))
  (fun pre W => Below w.heap.size w W ∧ ∃ (U : List GV) (o : Value), Rn W o 165 17 U.length (F0 U) w1.heap.size W ∧ Hid (U.length = pre.length) ∧ FsG W U (pre.map fun i => Jb L i.val) (482 * k + 1230) ∧ Bx W w.heap.size 108 [o]) (fun _ _ _ => False) (OwnFrom.and (ownFrom_below (Nat.le_refl _) hsz) ?own) (fun _ _ _ _ _ h _ _ => h.elim) ?start ?assign ?keep ?size ?body ?done ?stop
 case own =>
  rintro pre W W' row ⟨U, o, h1, h2, h3, h4⟩ hg hr
  have nc : Nc1 W W' := Nc1.of hg (fun r e => (hr r e).2)
  exact ⟨U, o, (h1.nc nc).here, h2, h3.nc, ii⟩
 case start => exact ⟨(ii : Kp w w1).out, [], .slice none 0 0, Rn.nil (Nat.le_refl _), Lib.hid rfl, FsG.nil, ii⟩
 case keep =>
  rintro pre W W' ⟨h0, U, o, h1, h2, h3, h4⟩ hk
  have k1 : Kp1 W W' := ⟨hk.out⟩
  exact ⟨h0.trans (hk.out.mono h0.size), U, o, Rn.here ii, h2, ii, ii⟩
 case size => exact fun pre W ⟨_, U, o, h1, _⟩ => h1.rw'.hb
 case assign =>
  intro l pre x W K hI hK; simp only [Fb, edL, List.zip_toArray, List.zip_cons_cons, List.zip_nil_right, List.foldl_toArray, List.foldl_cons, List.foldl_nil, List.setIfInBounds_toArray, List.set_cons_zero, List.set_cons_succ]; simp only [edL, List.setIfInBounds_toArray, List.set_cons_zero, List.set_cons_succ] at hK
  gi_wp2
  refine hK _ _ rfl ?_ ?_
  ·exact ii
  ·exact Bx.re rfl
 case body =>
  rintro l pre x b W ⟨hI, U, o, h1, h2, h3, h4⟩ hb hx hlt9
  have kw1 : Kp1 w W := ⟨hI⟩
  have nd1 : Ndl [o] := by obtain ⟨_, _, rfl⟩ := h1.slice; exact ii
  obtain ⟨m, hm0⟩ : ∃ m, (x.val + 1) % V.length = m := ⟨_, rfl⟩; have lq : LtN x.val V.length := ⟨x.isLt⟩
  have lm : LtN m V.length := ⟨by rw [← hm0]; exact Nat.mod_lt _ (by omega)⟩
  have hne : Hid (((pg L x.val).1, (pg L x.val).2) ≠ ((pg L m).1, (pg L m).2)) := Lib.hid (by
   have := HE.out x.val (by rw [← hlen.out]; exact x.isLt)
   rw [← hlen.out, hm0] at this
   exact this)
  dsimp only [edL] at hx ⊢
  rw [hm0] at hx ⊢; simp only [List.setIfInBounds_toArray, List.set_cons_zero, List.set_cons_succ]
  gi_wp2_with (first
   | (refine ⟨trivial, ?_⟩; gi_at_call 83; (refine inR ?_); refine Qea (Qel (k := k) (by omega) (by omega) (by omega) hne) ?_; intro w2 _ nx dx px ny dy py nz dz pz nu du pu nv dv pv _ _ _ _ _)
   | (gi_at_builtin; go_loud (refine Qbc (v := o) rfl (.tmp 20) (.tmp 22) 108 rfl Tryz.underlying108 Qad rfl (by decide) (by decide) (by decide) ii rfl (Qbj _) rfl (by rfl) ?h1 ?h2 (by have := h2.out; omega) ?_); (case h1 => exact GV.one ⟨_, _, _, _, _, _, _, _, _, _, _, _, _, _, _⟩); (case h2 => exact GV.nd ⟨_, _, _, _, _, _, _, _, _, _, _, _, _, _, _⟩); intro g2 c2 w3 i9 i10 i11))
  refine ⟨(ii : Keo W _).out.from _, ⟨(ii : Keo W _).out.size, fun y => ii, fun y => ii⟩, (ii : Kp w _).out, U ++ [⟨nx, dx, px, ny, dy, py, nz, dz, pz, nu, du, pu, nv, dv, pv⟩], _, Rn.cast2 ii (by simp) (by rw [Qbd]; rfl), Lib.hid (by rw [List.length_append, List.length_append, h2.out]; rfl), ?_, Bx.re rfl⟩
  rw [List.map_append, List.map_cons, List.map_nil]; exact FsG.cast2 (FsG.add (Nat.le_refl _) (Nat.le_refl _) (Nat.le_refl _) (Nat.le_refl _) (Nat.le_refl _)) (by rw [Jb, ← hlen.out, hm0])
 case done =>
  rintro D W hD ⟨hI, U, o, h1, h2, h3, h4⟩ hK
  have kw1 : Kp1 w W := ⟨hI⟩
  have gd : Ge w D := ⟨Nat.le_trans hsz hD⟩
  obtain ⟨oa, oc, rfl⟩ := h1.slice
  have sl := Sl.ofRn (h := h1)
  go_wp2
  refine Rb (D := D) rfl hK ?_
  have kd : Dp1 W (W.putObj D (.deferred none)) D := ⟨rfl, _, hK⟩
  go_ret
  exact Yn.fin (V := U) (by rw [Bu, hlen.out]; exact Wg _ _) (Nat.le_refl _)
 case stop => exact fun _ _ _ _ _ _ h _ => h.elim
end
section
set_option maxHeartbeats 4000000
open Go.RowKit Cel
structure ZV where
 g : Bool
 a : Option Addr
 l : Nat
 c : Nat
structure NW where
 x : ZV
 y : ZV
 z : ZV
 left : Int
 right : Int
def NW.c' (e : NW) : List Value := [.bool e.x.g, .slice e.x.a e.x.l e.x.c, .bool e.y.g, .slice e.y.a e.y.l e.y.c, .bool e.z.g, .slice e.z.a e.z.l e.z.c, .int .i64 e.left, .int .i64 e.right]
theorem NW.len (e : NW) : e.c'.length = 8 := rfl
theorem NW.one (e : NW) : ∀ u ∈ e.c', u.oneCell' = true := by
 intro u hu; simp only [NW.c', List.mem_cons, List.not_mem_nil, or_false] at hu; rcases hu with rfl | rfl | rfl | rfl | rfl | rfl | rfl | rfl <;> rfl
theorem NW.nd (e : NW) : ∀ u ∈ e.c', Am u = false := by
 intro u hu; simp only [NW.c', List.mem_cons, List.not_mem_nil, or_false] at hu; rcases hu with rfl | rfl | rfl | rfl | rfl | rfl | rfl | rfl <;> rfl
def rowN (V : List NW) : List Value := V.flatMap NW.c'
theorem Qmo (V : List NW) (a : NW) : rowN (V ++ [a]) = rowN V ++ a.c' := Fp _ _ _
theorem Ul (V : List NW) : ∀ u ∈ rowN V, Am u = false := Fz NW.nd V
theorem S3 (V : List NW) : (rowN V).length = V.length * 8 := by
 induction V with
 | nil => rfl
 | cons e V ih => rw [rowN, List.flatMap_cons, List.length_append, NW.len, ← rowN, ih, List.length_cons]; omega
variable {V : List NW}
instance Ndl.rowN : Ndl (rowN V) := ⟨Ul V⟩
structure Nd where
 l : LQ
 left : Int
 right : Int
class Nk (W : World) (e : NW) (d : outParam Nd) : Prop where
 x : CZ W (.agg #[.bool e.x.g, .slice e.x.a e.x.l e.x.c]) d.l.a.num 150
 y : CZ W (.agg #[.bool e.y.g, .slice e.y.a e.y.l e.y.c]) d.l.b.num 150
 z : CZ W (.agg #[.bool e.z.g, .slice e.z.a e.z.l e.z.c]) d.l.c.num 150
 left : e.left = d.left
 right : e.right = d.right
class Sf1 (W : outParam World) (W2 : World) : Prop where
 os : W2.os = W.os
 tape : W2.tape = W.tape
 output : W2.output = W.output
 size : W.heap.size ≤ W2.heap.size
 soft : ∀ j, j < W.heap.size → W2.heap[j]? = W.heap[j]? ∨ SoftB W j
variable {W W2 : World} {v : Value}
theorem Rd.sf {l : List Nat} (h : Rd W v l) (k : Sf1 W W2) : Rd W2 v l := by
 obtain ⟨a, cap, rfl, h1, h2, h3, h4⟩ := h
 refine ⟨a, cap, rfl, h1, h2, h3, fun h0 => ?_⟩
 obtain ⟨b, off, rfl, hcell⟩ := h4 h0
 refine ⟨b, off, rfl, fun j hj => ?_⟩
 have hc := hcell j hj
 have hb : b < W.heap.size := by
  rcases Nat.lt_or_ge b W.heap.size with h | h
  ·exact h
  ·simp [World.cell?, Array.getElem?_eq_none h] at hc
 rcases k.soft b hb with h5 | h5
 ·rw [Gw h5]; exact hc
 ·have := h5.no hc
  simp [Am] at this
theorem Pres.sf (k : Sf1 W W2) : Pres W W2 := ⟨fun h => ⟨h.1.sf k, h.2⟩, fun h => by obtain ⟨l, h1, h2⟩ := h; exact ⟨l, h1.sf k, h2⟩, fun {b l} y => by
 rcases k.soft b (Ep y) with h5 | h5
 ·rw [h5]; exact y
 ·obtain ⟨t, l', h1, h2, _⟩ := h5.out; rw [h1] at y
  injection y with y
  injection y with _ y2
  exact absurd y2 h2.pair⟩
variable {i ib k p qb : Nat}
instance (priority := low) CZ.sf {z : Int} [b : Sf1 W W2] [h : CZ W v z k] : CZ W2 v z k := ⟨h.out.map fun _ _ h => ⟨h.1, (Pres.sf b).nn h.2⟩⟩
instance (priority := low) CF.sf {q : Rat} [b : Sf1 W W2] [h : CF W v q k] : CF W2 v q k := ⟨h.out.map (Pres.sf b)⟩
instance (priority := low) Lk.sf {v : LV} {q : LQ} [b : Sf1 W W2] [h : Lk W v q] : Lk W2 v q := ⟨by have := h.x; exact ii, by have := h.y; exact ii, by have := h.z; exact ii⟩
instance (priority := low) Tk.sf {b : Nat} {t : Tr} [k : Sf1 W W2] [h : Tk W b t] : Tk W2 b t := ⟨h.out.keep (fun b l e => by
 rcases k.soft b (Ep e) with h5 | h5
 ·rw [h5]; exact e
 ·obtain ⟨t', l', h1, h2, _⟩ := h5.out; rw [h1] at e
  injection e with e
  injection e with _ e2
  exact absurd e2 h2.tree) (fun _ _ _ => ii)⟩
variable {d : Nd} {e : NW} {o : Obj}
instance Nk.al  [h : Nk W e d] : Nk (W.alloc o) e d := ⟨by have := h.x; exact ii, by have := h.y; exact ii, by have := h.z; exact ii, h.left, h.right⟩
instance Nk.dr   [h : Nk W e d] : Nk W.drew e d := ⟨by have := h.x; exact ii, by have := h.y; exact ii, by have := h.z; exact ii, h.left, h.right⟩
instance (priority := low) Nk.kp [kb : Kp1 W W2] [h : Nk W e d] : Nk W2 e d := ⟨by have := h.x; exact ii, by have := h.y; exact ii, by have := h.z; exact ii, h.left, h.right⟩
instance (priority := low) Nk.apn [kb : Apn W W2] [h : Nk W e d] : Nk W2 e d := ⟨by have := h.x; exact ii, by have := h.y; exact ii, by have := h.z; exact ii, h.left, h.right⟩
instance (priority := low) Nk.sf [kb : Sf1 W W2] [h : Nk W e d] : Nk W2 e d := ⟨by have := h.x; exact ii, by have := h.y; exact ii, by have := h.z; exact ii, h.left, h.right⟩
instance Nk.st {xv : Value} [kb : SoftB W qb] [h : Nk W e d] : Nk (W.setCell ⟨qb, ib, none⟩ xv) e d := ⟨by have := h.x; exact ii, by have := h.y; exact ii, by have := h.z; exact ii, h.left, h.right⟩
def nV (V : List NW) (i : Nat) : NW := V.getD i ⟨⟨false, none, 0, 0⟩, ⟨false, none, 0, 0⟩, ⟨false, none, 0, 0⟩, 0, 0⟩
def nD (D : List Nd) (i : Nat) : Nd := D.getD i ⟨⟨0, 0, 0⟩, 0, 0⟩
theorem Ha (h : i < V.length) : nV V i = V[i] := C7 h
variable {D : List Nd}
theorem He (h : i < D.length) : nD D i = D[i] := C7 h
class Cn (W : World) (V : List NW) (D : outParam (List Nd)) : Prop where
 len : V.length = D.length
 f : ∀ i, i < V.length → Nk W (nV V i) (nD D i)
instance Cn.al  [h : Cn W V D] : Cn (W.alloc o) V D := ⟨h.len, fun i hi => by have := h.f i hi; exact ii⟩
instance Cn.dr   [h : Cn W V D] : Cn W.drew V D := ⟨h.len, fun i hi => by have := h.f i hi; exact ii⟩
instance (priority := low) Cn.kp [kb : Kp1 W W2] [h : Cn W V D] : Cn W2 V D := ⟨h.len, fun i hi => by have := h.f i hi; exact ii⟩
instance (priority := low) Cn.apn [kb : Apn W W2] [h : Cn W V D] : Cn W2 V D := ⟨h.len, fun i hi => by have := h.f i hi; exact ii⟩
instance (priority := low) Cn.sf [kb : Sf1 W W2] [h : Cn W V D] : Cn W2 V D := ⟨h.len, fun i hi => by have := h.f i hi; exact ii⟩
instance Cn.st {xv : Value} [kb : SoftB W qb] [h : Cn W V D] : Cn (W.setCell ⟨qb, ib, none⟩ xv) V D := ⟨h.len, fun i hi => by have := h.f i hi; exact ii⟩
theorem Cn.nil : Cn W [] [] := ⟨rfl, fun i hi => by simp at hi⟩
theorem Cn.snoc (h : Cn W V D) (k : Nk W e d) : Cn W (V ++ [e]) (D ++ [d]) := by
 refine ⟨by simp [h.len], fun i hi => ?_⟩
 rcases Nat.lt_or_ge i V.length with hlt | hge
 ·have e1 : nV (V ++ [e]) i = nV V i := by rw [Ha hi, Ha hlt, List.getElem_append_left hlt]
  have e2 : nD (D ++ [d]) i = nD D i := by rw [He (by rw [List.length_append, ← h.len]; omega), He (by rw [← h.len]; exact hlt), List.getElem_append_left (by rw [← h.len]; exact hlt)]
  rw [e1, e2]; exact h.f i hlt
 ·have hi' : i = V.length := by simp at hi; omega
  subst hi'
  have e1 : nV (V ++ [e]) V.length = e := by rw [Ha hi]; simp
  have e2 : nD (D ++ [d]) V.length = d := by rw [h.len, He (by simp)]; simp
  rw [e1, e2]; exact k
def Fi (V : List NW) (p : Nat) (l r : Int) : List NW := V.set p ⟨(nV V p).x, (nV V p).y, (nV V p).z, l, r⟩
def G4 (D : List Nd) (p : Nat) (l r : Int) : List Nd := D.set p ⟨(nD D p).l, l, r⟩
theorem Mw {l r : Int} : (Fi V p l r).length = V.length := by simp [Fi]
theorem Cn.set (h : Cn W V D) (hp : p < V.length) (l r : Int) : Cn W (Fi V p l r) (G4 D p l r) := by
 refine ⟨by simp [Fi, G4, h.len], fun i hi => ?_⟩
 rw [Mw] at hi
 have hi2 : i < D.length := by rw [← h.len]; exact hi
 have e1 : nV (Fi V p l r) i = if p = i then ⟨(nV V p).x, (nV V p).y, (nV V p).z, l, r⟩ else nV V i := by
  rw [Ha (by rw [Mw]; exact hi), Ha hi]; unfold Fi; rw [List.getElem_set]
 have e2 : nD (G4 D p l r) i = if p = i then ⟨(nD D p).l, l, r⟩ else nD D i := by
  rw [He (by simp [G4]; exact hi2), He hi2]; unfold G4; rw [List.getElem_set]
 rw [e1, e2]
 have h1 := h.f i hi
 split
 ·next e => subst e; exact ⟨h1.x, h1.y, h1.z, rfl, rfl⟩
 ·exact h1
theorem Qhn (U : List NW) (Z : List Value) (l r : Int) : ∀ p, p < U.length → ((rowN U ++ Z).set (p * 8 + 6) (.int .i64 l)).set (p * 8 + 7) (.int .i64 r) = rowN (Fi U p l r) ++ Z := by
 induction U with
 | nil => intro p h; simp at h
 | cons y U ih =>
  intro p h
  have e : ∀ (v : NW) (M : List NW), rowN (v :: M) ++ Z = v.c' ++ (rowN M ++ Z) := fun v M => by simp [rowN]
  rw [e]
  cases p with
  | zero => show _ = rowN (⟨y.x, y.y, y.z, l, r⟩ :: U) ++ Z; rw [e]; rfl
  | succ p =>
   have hs : Fi (y :: U) (p + 1) l r = y :: Fi U p l r := rfl
   rw [hs, e, ← ih p (by simpa using h)]
   have a : ∀ (m : List Value) (j : Nat) (v : Value), (y.c' ++ m).set ((p + 1) * 8 + j) v = y.c' ++ m.set (p * 8 + j) v := fun m j v => by
    rw [List.set_append_right _ _ (by rw [NW.len]; omega), NW.len]
    congr 2
    omega
   rw [a, a]
def code : Tr → Nat → Int
 | .leaf b, _ => if b then -2 else -1
 | .node _ _ _, n => (n : Int)
def A4 : Tr → Nat → List Nd
 | .leaf _, _ => []
 | .node l x y, n => ⟨l, code x (n + 1), code y (n + 1 + x.size)⟩ :: (A4 x (n + 1) ++ A4 y (n + 1 + x.size))
theorem Px (t : Tr) : ∀ n, (A4 t n).length = t.size := by
 induction t with
 | leaf b => exact fun _ => rfl
 | node l x y ihx ihy => intro n; simp only [A4, Tr.size, List.length_cons, List.length_append, ihx, ihy]; omega
def Enc (D : List Nd) : Tr → Nat → Prop
 | .leaf _, _ => True
 | .node l x y, n => n < D.length ∧ nD D n = ⟨l, code x (n + 1), code y (n + 1 + x.size)⟩ ∧ Enc D x (n + 1) ∧ Enc D y (n + 1 + x.size)
theorem Qjx (t : Tr) : ∀ (P S : List Nd), Enc (P ++ A4 t P.length ++ S) t P.length := by
 induction t with
 | leaf b => exact fun _ _ => trivial
 | node l x y ihx ihy =>
  intro P S
  have h1 := ihx (P ++ [⟨l, code x (P.length + 1), code y (P.length + 1 + x.size)⟩]) (A4 y (P.length + 1 + x.size) ++ S)
  have h2 := ihy (P ++ [⟨l, code x (P.length + 1), code y (P.length + 1 + x.size)⟩] ++ A4 x (P.length + 1)) S
  have e1 : (P ++ [(⟨l, code x (P.length + 1), code y (P.length + 1 + x.size)⟩ : Nd)]).length = P.length + 1 := by simp
  have e2 : (P ++ [(⟨l, code x (P.length + 1), code y (P.length + 1 + x.size)⟩ : Nd)] ++ A4 x (P.length + 1)).length = P.length + 1 + x.size := by simp [Px]; omega
  rw [e1] at h1; rw [e2] at h2
  have e3 : P ++ A4 (.node l x y) P.length ++ S = P ++ [⟨l, code x (P.length + 1), code y (P.length + 1 + x.size)⟩] ++ A4 x (P.length + 1) ++ (A4 y (P.length + 1 + x.size) ++ S) := by simp [A4]
  have e4 : P ++ A4 (.node l x y) P.length ++ S = P ++ [⟨l, code x (P.length + 1), code y (P.length + 1 + x.size)⟩] ++ A4 x (P.length + 1) ++ A4 y (P.length + 1 + x.size) ++ S := by simp [A4]
  refine ⟨?_, ?_, by rw [e3]; exact h1, by rw [e4]; exact h2⟩
  ·simp [A4]
  ·rw [He (by simp [A4])]; simp [A4]
end
end Go.Proofs.YtpnpnlmlamfpmaaGreatDoor
