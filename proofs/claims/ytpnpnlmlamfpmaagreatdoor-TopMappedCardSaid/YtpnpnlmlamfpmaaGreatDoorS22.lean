import Derived.Test.YtpnpnlmlamfpmaaGreatDoorS21
namespace Go.Proofs.YtpnpnlmlamfpmaaGreatDoor
open Go.RowKit
set_option linter.unusedVariables false
set_option maxHeartbeats 40000000
set_option maxRecDepth 100000
set_option synthInstance.maxHeartbeats 1000000
set_option synthInstance.maxSize 100000
section
variable {P : Program} {W w w' w0 : World} {b k k1 kx ky n : Nat} {l : List Value} {t : TypeId}
theorem B6 {fn : Func} {R : Ending → World → Prop} {a : Act} {p u : Tmp} {ty : TypeId} {d : TypeDesc} {l' : List Value} [hb : Bx W b t l] (hr : fn.results = #[.cell p ty, .tmp u])
  (hu : P.underlying ty = some d) (hd : (match d with | .struct _ | .array _ _ => true | _ => false) = true) (hi : (P.info? ty).map (·.size) = some l.length)
  (hp : a.tmps.getD p undef = .pointer (some ⟨b, 0, none⟩)) (hdf : a.defers = []) (hl : l = l') (hR : R (.returned (.tuple #[.agg l'.toArray, a.tmps.getD u undef])) W) : bodyPost P fn R .ret a W := by
 subst hl; exact Tl hr hp (M1 W b ty l d hu hd hi (fun j hj => by rw [B8, List.getElem?_eq_getElem hj])) hdf hR
def Bf (x : Rat) (k : Nat) (v : Value) (W : World) : Prop := ∃ n d p, v = .agg #[.int .i64 n, .int .i64 d, .pointer p] ∧ CF W (.agg #[.int .i64 n, .int .i64 d, .pointer p]) x k
variable {x x' y y' z : Rat}
instance  : Last (Bf x k) := ⟨fun _ _ _ hb ⟨n, d, p, e, _⟩ => have := Kp1.mk hb; ⟨n, d, p, e, ii⟩⟩
def K6 (w0 : World) (t : TypeId) (l : List Value) (n : Nat) (v : Value) (W : World) : Prop := ∃ b, v = .slice (some ⟨b, 0, none⟩) n n ∧ Bx W b t l ∧ Ge w0 b ∧ Gg w0 b
instance  : Last (K6 w0 t l n) := ⟨fun _ _ _ hb ⟨b, e, _, h1, h2⟩ => have := Kp1.mk hb; ⟨b, e, ii, h1, h2⟩⟩
theorem K6.fin [h : Bx W b t l] [h1 : Ge w0 b] [h2 : Gg w0 b] : K6 w0 t l n (.slice (some ⟨b, 0, none⟩) n n) W := ⟨b, rfl, h, h1, h2⟩
theorem Bf.fin {k' : Nat} {n d : Int} {p : Option Addr} [h : CF W (.agg #[.int .i64 n, .int .i64 d, .pointer p]) x' k'] (e : x' = x) (b : k' ≤ k) : Bf x k (.agg #[.int .i64 n, .int .i64 d, .pointer p]) W := ⟨n, d, p, rfl, h.cast e b⟩
def Kt (w : World) (x y z : Rat) (v : Bool) (k : Nat) (e : Ending) (w' : World) : Prop := ∃ nx dx px ny dy py nz dz pz, e = .returned (.tuple #[.agg #[.int .i64 nx, .int .i64 dx, .pointer px, .int .i64 ny, .int .i64 dy, .pointer py, .int .i64 nz, .int .i64 dz, .pointer pz], .bool v]) ∧ CF w' (.agg #[.int .i64 nx, .int .i64 dx, .pointer px]) x k ∧ CF w' (.agg #[.int .i64 ny, .int .i64 dy, .pointer py]) y k ∧ CF w' (.agg #[.int .i64 nz, .int .i64 dz, .pointer pz]) z k ∧ Below w.heap.size w w'
variable {K : Ending → World → Prop} {args : Array Value} {f : FuncId} {v : Bool}
theorem Xz (h : Calls P f args w (Kt w x y z v k))
  (hK : ∀ w' [Kp1 w w'] (nx : Int) (dx : Int) (px : Option Addr) (ny : Int) (dy : Int) (py : Option Addr) (nz : Int) (dz : Int) (pz : Option Addr) [CF w' (.agg #[.int .i64 nx, .int .i64 dx, .pointer px]) x k] [CF w' (.agg #[.int .i64 ny, .int .i64 dy, .pointer py]) y k] [CF w' (.agg #[.int .i64 nz, .int .i64 dz, .pointer pz]) z k], K (.returned (.tuple #[.agg #[.int .i64 nx, .int .i64 dx, .pointer px, .int .i64 ny, .int .i64 dy, .pointer py, .int .i64 nz, .int .i64 dz, .pointer pz], .bool v])) w') : Calls P f args w K := by
 refine h.mono ?_
 rintro e w' ⟨nx, dx, px, ny, dy, py, nz, dz, pz, rfl, hx, hy, hz, hb⟩
 exact @hK w' ⟨hb⟩ nx dx px ny dy py nz dz pz hx hy hz
variable {d1 dx dy n1 nx ny : Int} {p1 px py : Option Addr}
theorem Kt.fin {nz : Int} {dz : Int} {pz : Option Addr} {z' : Rat} {kz : Nat} [b : Kp w w'] [hx : CF w' (.agg #[.int .i64 nx, .int .i64 dx, .pointer px]) x kx] [hy : CF w' (.agg #[.int .i64 ny, .int .i64 dy, .pointer py]) y ky] [hz : CF w' (.agg #[.int .i64 nz, .int .i64 dz, .pointer pz]) z kz] (ex : x = x') (mx : kx ≤ k) (ey : y = y') (my : ky ≤ k) (ez : z = z') (mz : kz ≤ k) : Kt w x' y' z' v k (.returned (.tuple #[.agg #[.int .i64 nx, .int .i64 dx, .pointer px, .int .i64 ny, .int .i64 dy, .pointer py, .int .i64 nz, .int .i64 dz, .pointer pz], .bool v])) w' :=
 ⟨_, _, _, _, _, _, _, _, _, rfl, hx.cast ex mx, hy.cast ey my, hz.cast ez mz, b.out⟩
def Q9 (w : World) (x y : Rat) (v : Bool) (k : Nat) (e : Ending) (w' : World) : Prop := ∃ nx dx px ny dy py, e = .returned (.tuple #[.agg #[.int .i64 nx, .int .i64 dx, .pointer px, .int .i64 ny, .int .i64 dy, .pointer py], .bool v]) ∧ CF w' (.agg #[.int .i64 nx, .int .i64 dx, .pointer px]) x k ∧ CF w' (.agg #[.int .i64 ny, .int .i64 dy, .pointer py]) y k ∧ Below w.heap.size w w'
theorem Qkg (h : Calls P f args w (Q9 w x y v k))
  (hK : ∀ w' [Kp1 w w'] (nx : Int) (dx : Int) (px : Option Addr) (ny : Int) (dy : Int) (py : Option Addr) [CF w' (.agg #[.int .i64 nx, .int .i64 dx, .pointer px]) x k] [CF w' (.agg #[.int .i64 ny, .int .i64 dy, .pointer py]) y k], K (.returned (.tuple #[.agg #[.int .i64 nx, .int .i64 dx, .pointer px, .int .i64 ny, .int .i64 dy, .pointer py], .bool v])) w') : Calls P f args w K := by
 refine h.mono ?_
 rintro e w' ⟨nx, dx, px, ny, dy, py, rfl, hx, hy, hb⟩
 exact @hK w' ⟨hb⟩ nx dx px ny dy py hx hy
theorem Q9.fin [b : Kp w w'] [hx : CF w' (.agg #[.int .i64 nx, .int .i64 dx, .pointer px]) x kx] [hy : CF w' (.agg #[.int .i64 ny, .int .i64 dy, .pointer py]) y ky] (ex : x = x') (mx : kx ≤ k) (ey : y = y') (my : ky ≤ k) : Q9 w x' y' v k (.returned (.tuple #[.agg #[.int .i64 nx, .int .i64 dx, .pointer px, .int .i64 ny, .int .i64 dy, .pointer py], .bool v])) w' :=
 ⟨_, _, _, _, _, _, rfl, hx.cast ex mx, hy.cast ey my, b.out⟩
instance (priority := low) CF.zz : CF W (.agg #[.int .i64 0, .int .i64 0, .pointer none]) 0 2 := CF.zero (by omega)
theorem Gj [h1 : CF w (.agg #[.int .i64 n1, .int .i64 d1, .pointer p1]) x k1] (hv : Hid (decide (x = 0) = v)) :
  Calls Tryz.prog 80 #[.agg #[.int .i64 n1, .int .i64 d1, .pointer p1]] w (fun e w' => e = .returned (.bool v) ∧ Below w.heap.size w w') := by
 rw [← hv.out]; exact Qau
theorem Zh {n2 d2 n3 d3 : Int} {p2 p3 : Option Addr} {k2 k3 : Nat} [h1 : CF w (.agg #[.int .i64 n1, .int .i64 d1, .pointer p1]) x k1] [h2 : CF w (.agg #[.int .i64 n2, .int .i64 d2, .pointer p2]) y k2] [h3 : CF w (.agg #[.int .i64 n3, .int .i64 d3, .pointer p3]) z k3] (b : k1 ≤ 10000 ∧ k2 ≤ 10000 ∧ k3 ≤ 10000) (h0 : Hid (¬ (x = 0 ∧ y = 0))) :
  Calls Tryz.prog 137 #[.agg #[.int .i64 n1, .int .i64 d1, .pointer p1], .agg #[.int .i64 n2, .int .i64 d2, .pointer p2], .agg #[.int .i64 n3, .int .i64 d3, .pointer p3]] w (Kt w (lnK x x y z) (lnK y x y z) (lnK z x y z) true (2 * (k1 + k2 + k3) + 60)) := by
 have hm : ∀ (v : Value) (W : World), (Go.method 453 96 v "Mul").run Tryz.prog W = .ok (161, v) W := fun _ _ => by kernel_rfl
 obtain ⟨u, hu⟩ : ∃ u, decide (x = 0) = u := ⟨_, rfl⟩; have HX := Lib.hid hu
 have HY : Hid (u = true → decide (y = 0) = false) := fun e => decide_eq_false (fun h => h0.out ⟨of_decide_eq_true (hu.trans e), h⟩)
 clear hu; go_enter Tryz.func137, Tryz.ntmps137
 go_upto_region 1 with fail
 go_cut [14] from 9 to 14 (fun t wx => t = .bool false ∧ Bx wx w.heap.size 96 [.int .i64 n1, .int .i64 d1, .pointer p1] ∧ Bx wx (w.heap.size + 1) 96 [.int .i64 n2, .int .i64 d2, .pointer p2] ∧ Bx wx (w.heap.size + 1 + 1) 96 [.int .i64 n3, .int .i64 d3, .pointer p3] ∧ Bx wx (w.heap.size + 1 + 1 + 1) 161 [.int .i64 0, .int .i64 0, .pointer none, .int .i64 0, .int .i64 0, .pointer none, .int .i64 0, .int .i64 0, .pointer none] ∧ CF wx (.agg #[.int .i64 n1, .int .i64 d1, .pointer p1]) x k1 ∧ CF wx (.agg #[.int .i64 n2, .int .i64 d2, .pointer p2]) y k2 ∧ CF wx (.agg #[.int .i64 n3, .int .i64 d3, .pointer p3]) z k3 ∧ Kp w wx)
 case first =>
  cases u with
  | true =>
   have HY' := Lib.hid (HY.out rfl)
   clear HY
   go_wp2_with (first
    | (go_at_call 80; refine Aa (Gj HX) ?_; intros)
    | (go_at_call 80; refine Aa (Gj HY') ?_; intros))
   go_meet; exact ⟨rfl, ii, ii, ii, ii, ii, ii, ii, ii⟩
  | false =>
   go_wp2_with (first
    | (go_at_call 80; refine Aa (Gj HX) ?_; intros))
   go_meet; exact ⟨rfl, ii, ii, ii, ii, ii, ii, ii, ii⟩
 case rest =>
  obtain ⟨rfl, i1, i2, i3, i4, i5, i6, i7, i8⟩ := hcut; clear HX HY; go_wp2_with fail; refine rgn [] [] fun hH => ?_; refine tk 0 hH ?_; refine tk 1 hH ?_; refine tk 3 hH ?_; refine tk 6 hH ?_; refine tk 7 hH ?_; refine tk 8 hH ?_
  refine Jq [(2, 18), (4, 20), (5, 21), (9, 25)] (fun i => match i with | 2 => [] | 4 => [2] | 5 => [4] | 9 => [] | _ => []) [Bf (rgcd x y) (k1 + k2 + 6), Bf (rgcd (rgcd x y) z) (k1 + k2 + k3 + 12), Bf (rgcd (rgcd x y) z)⁻¹ (k1 + k2 + k3 + 14), K6 wc 96 [.int .i64 n1, .int .i64 d1, .pointer p1, .int .i64 n2, .int .i64 d2, .pointer p2, .int .i64 n3, .int .i64 d3, .pointer p3] 3] [] 2 (by rfl) (by decide +kernel) (by decide) (by decide) (by kernel_rfl) ?_ (fun _ _ => Ex.below) hH ?_ ?_
  ·exact fun i hi => nomatch hi
  ·intro i hi f W hSw hbw hp; have kw := Kp1.mk hbw
   have hSx := Ex1.mk hSw
   clear hH; simp only [List.map_cons, List.map_nil, List.mem_cons, List.not_mem_nil, or_false] at hi
   rcases hi with rfl | rfl | rfl | rfl
   ·refine ⟨_, by simp; rfl, fun K' hK => ?_⟩
    clear hp; simp only [Ai, Act.put, sA, sB, sC] at hK ⊢
    generalize f 2 = v2, f 4 = v4, f 5 = v5, f 9 = v9 at *
    go_simp; refine Ab (Iv (by omega)) ?_; intros
    refine hK.out _ _ _ rfl (ii : Kp W _).out ?_ ?_
    ·exact Bf.fin rfl (by omega)
    ·exact fun h => absurd h (by decide)
   ·have h2 : Bf (rgcd x y) (k1 + k2 + 6) (f 2) W := hp 2 (by decide)
    refine ⟨_, by simp; rfl, fun K' hK => ?_⟩
    clear hp; simp only [Ai, Act.put, sA, sB, sC] at hK ⊢
    generalize f 2 = v2, f 4 = v4, f 5 = v5, f 9 = v9 at *
    obtain ⟨n2, d2, p2, rfl, i2⟩ := h2; go_simp; refine Ab (Iv (by omega)) ?_; intros
    refine hK.out _ _ _ rfl (ii : Kp W _).out ?_ ?_
    ·exact Bf.fin rfl (by omega)
    ·exact fun h => absurd h (by decide)
   ·have h4 : Bf (rgcd (rgcd x y) z) (k1 + k2 + k3 + 12) (f 4) W := hp 4 (by decide)
    refine ⟨_, by simp; rfl, fun K' hK => ?_⟩
    clear hp; simp only [Ai, Act.put, sA, sB, sC] at hK ⊢
    generalize f 2 = v2, f 4 = v4, f 5 = v5, f 9 = v9 at *
    obtain ⟨n4, d4, p4, rfl, i4⟩ := h4; go_simp; refine Ab (Ri (by omega)) ?_; intros
    refine hK.out _ _ _ rfl (ii : Kp W _).out ?_ ?_
    ·exact Bf.fin rfl (by omega)
    ·exact fun h => absurd h (by decide)
   ·refine ⟨_, by simp; rfl, fun K' hK => ?_⟩
    clear hp; simp only [Ai, Act.put, sA, sB, sC] at hK ⊢
    generalize f 2 = v2, f 4 = v4, f 5 = v5, f 9 = v9 at *
    go_simp
    refine hK.out _ _ _ rfl (ii : Kp W _).out ?_ ?_
    ·exact K6.fin
    ·exact fun h => absurd h (by decide)
  ·intro f W hSw hbw hf hne; have kw := Kp1.mk hbw
   have hSx := Ex1.mk hSw
   clear hH
   have h2 : Bf (rgcd x y) (k1 + k2 + 6) (f 2) W := hf 2 (by decide)
   have h4 : Bf (rgcd (rgcd x y) z) (k1 + k2 + k3 + 12) (f 4) W := hf 4 (by decide)
   have h5 : Bf (rgcd (rgcd x y) z)⁻¹ (k1 + k2 + k3 + 14) (f 5) W := hf 5 (by decide)
   have h9 : K6 wc 96 [.int .i64 n1, .int .i64 d1, .pointer p1, .int .i64 n2, .int .i64 d2, .pointer p2, .int .i64 n3, .int .i64 d3, .pointer p3] 3 (f 9) W := hf 9 (by decide)
   clear hf hne; simp only [Ai, lset, List.map_cons, List.map_nil, Act.put, List.setIfInBounds_toArray, List.set_cons_zero, List.set_cons_succ]
   generalize f 2 = v2, f 4 = v4, f 5 = v5, f 9 = v9 at *
   obtain ⟨n2, d2, p2, rfl, i2⟩ := h2; obtain ⟨n4, d4, p4, rfl, i4⟩ := h4; obtain ⟨n5, d5, p5, rfl, i5⟩ := h5; obtain ⟨b9, rfl, i9, j9, k9⟩ := h9
   have hl4 := Bx.lt (W := wc) (b := w.heap.size + 1 + 1 + 1) ii
   have nn : NeN b9 (w.heap.size + 1 + 1 + 1) := ⟨by have h1 := j9.out; omega⟩
   clear hl4
   have gw : Ge w b9 := ⟨by have h1 := j9.out; have h2 := i8.out.size; omega⟩
   have hH := hSw
   refine st 10 fun K hK => ?_; go_simp; go_enter Tryz.func188, Tryz.ntmps188; go_wp2_with fail
   refine wp_loop_rounds 4 ?_
   rw [rounds_succ]; go_wp2_with fail; refine rgn [] [10] fun hH => ?_; refine tk 0 hH ?_; refine tk 1 hH ?_; refine tk 2 hH ?_; refine tk 3 hH ?_; refine tk 4 hH ?_; refine tk 5 hH ?_; refine tk 6 hH ?_; refine tk 7 hH (st 8 fun K hK => ?_); go_simp
   (go_at_call 161; refine Ab (B4 (by omega)) ?_; intros)
   refine hd hK ?_; clear hH hK; intro hH; refine tk 9 hH (st 10 fun K hK => ?_); go_simp; refine hdT hK ?_; clear hK K; refine dn ?_; clear hH; go_wp2_with fail; rw [rounds_succ]; go_wp2_with fail; refine rgn [] [10] fun hH => ?_; refine tk 0 hH ?_; refine tk 1 hH ?_; refine tk 2 hH ?_; refine tk 3 hH ?_; refine tk 4 hH ?_; refine tk 5 hH ?_; refine tk 6 hH ?_; refine tk 7 hH (st 8 fun K hK => ?_); go_simp
   (go_at_call 161; refine Ab (B4 (by omega)) ?_; intros)
   refine hd hK ?_; clear hH hK; intro hH; refine tk 9 hH (st 10 fun K hK => ?_); go_simp; refine hdT hK ?_; clear hK K; refine dn ?_; clear hH; go_wp2_with fail; rw [rounds_succ]; go_wp2_with fail; refine rgn [] [10] fun hH => ?_; refine tk 0 hH ?_; refine tk 1 hH ?_; refine tk 2 hH ?_; refine tk 3 hH ?_; refine tk 4 hH ?_; refine tk 5 hH ?_; refine tk 6 hH ?_; refine tk 7 hH (st 8 fun K hK => ?_); go_simp
   (go_at_call 161; refine Ab (B4 (by omega)) ?_; intros)
   refine hd hK ?_; clear hH hK; intro hH; refine tk 9 hH (st 10 fun K hK => ?_); go_simp; refine hdT hK ?_; clear hK K; refine dn ?_; clear hH; go_wp2_with fail; rw [rounds_succ]; go_wp2_with fail; go_simp; refine hd hK ?_; clear hH hK; intro hH; refine tk 11 hH (dn ?_); clear hH; go_wp2_with fail; refine rgn [] [10, 11] fun hH => ?_; refine tk 0 hH ?_; refine tk 1 hH ?_; refine tk 2 hH ?_; refine tk 3 hH ?_; refine tk 4 hH ?_; refine tk 5 hH ?_; refine tk 6 hH ?_; refine tk 7 hH ?_; refine tk 8 hH ?_; refine tk 9 hH (st 10 fun K hK => ?_); go_simp; refine hdT hK ?_; clear hK K; refine tk0 11 (dn ?_); clear hH; go_wp2_with fail
   refine B6 rfl Tryz.underlying161 rfl (by kernel_rfl) rfl rfl rfl ?_
   exact Kt.fin rfl (by omega) rfl (by omega) rfl (by omega)
end
section
variable {a : Option Addr} {c k k1x k1y k1z l : Nat} {g : Bool} {w : World} {z : Int}
theorem RL.ofZ (h : CZ w (.agg #[.bool g, .slice a l c]) z k) : RL w (.slice a l c) (nf z.natAbs) := ⟨(Cb h).2.1⟩
theorem Qki (h : CZ w (.agg #[.bool g, .slice a l c]) z k) : Ga g (nf z.natAbs) = true := by
 have hg := (Cb h).1
 unfold Ga; rw [Lu, Bool.true_and]
 by_cases hz : z < 0
 ·have : 0 < (nf z.natAbs).length := Bw (by omega)
  simp [this]
 ·rw [hg, decide_eq_false hz]; rfl
theorem Qks [h : CZ w (.agg #[.bool g, .slice a l c]) z k] :
  Calls Tryz.prog 166 #[.agg #[.bool g, .slice a l c]] w fun e w' => e = .returned (.bool true) ∧ Below w.heap.size w w' := by
 have i := RL.ofZ h
 exact H3 (L := nf z.natAbs) (Lib.hid (Qki h))
theorem Xe {v : Bool} {n1 d1 n2 d2 : Int} {p1 p2 : Option Addr} {x y : Rat} {k1 k2 : Nat} [h1 : CF w (.agg #[.int .i64 n1, .int .i64 d1, .pointer p1]) x k1] [h2 : CF w (.agg #[.int .i64 n2, .int .i64 d2, .pointer p2]) y k2] (b : k1 ≤ 50000 ∧ k2 ≤ 50000) (hv : Hid (decide (x = y) = v)) :
  Calls Tryz.prog 118 #[.agg #[.int .i64 n1, .int .i64 d1, .pointer p1], .agg #[.int .i64 n2, .int .i64 d2, .pointer p2]] w (fun e w' => e = .returned (.bool v) ∧ Below w.heap.size w w') := by
 rw [← hv.out]; exact Pn (by omega)
theorem Qfy {g1x g1y g1z : Bool} {a1x a1y a1z : Option Addr} {l1x c1x l1y c1y l1z c1z : Nat} {la lb lc : Int} [h1x : CZ w (.agg #[.bool g1x, .slice a1x l1x c1x]) la k1x] [h1y : CZ w (.agg #[.bool g1y, .slice a1y l1y c1y]) lb k1y] [h1z : CZ w (.agg #[.bool g1z, .slice a1z l1z c1z]) lc k1z] (b : k1x ≤ 10000 ∧ k1y ≤ 10000 ∧ k1z ≤ 10000) (hv : Hid (LnV la lb lc)) :
  Calls Tryz.prog 134 #[.agg #[.bool g1x, .slice a1x l1x c1x, .bool g1y, .slice a1y l1y c1y, .bool g1z, .slice a1z l1z c1z]] w (Kt w ((la : Int) : Rat) ((lb : Int) : Rat) ((lc : Int) : Rat) true (max k1x (max k1y k1z) + 3)) := by
 have HG : Hid (decide (rgcd (rgcd (la : Rat) (lb : Rat)) (lc : Rat) = ((1 : Int) : Rat)) = true) := by
  refine decide_eq_true ?_
  have h := Py la lb lc
  rw [hv.out.2] at h; exact h
 obtain ⟨u, hu⟩ : ∃ u, decide ((la : Rat) = 0) = u := ⟨_, rfl⟩; have HX := Lib.hid hu
 have HY : Hid (u = true → decide ((lb : Rat) = 0) = false) := fun e => decide_eq_false (fun h => hv.out.1 ⟨by exact_mod_cast (of_decide_eq_true (hu.trans e)), by exact_mod_cast h⟩)
 clear hu; go_enter Tryz.func134, Tryz.ntmps134
 go_upto_region 3 with (first | (go_at_call 166; refine Aa (Qks) ?_; intros))
 go_cut [4] from 22 to 31 (fun t wx => ∃ (q : Nat) (n1 d1 : Int) (p1 : Option Addr) (n2 d2 : Int) (p2 : Option Addr) (n3 d3 : Int) (p3 : Option Addr), t = .pointer (some ⟨q, 0, none⟩) ∧ Bx wx q 161 [.int .i64 n1, .int .i64 d1, .pointer p1, .int .i64 n2, .int .i64 d2, .pointer p2, .int .i64 n3, .int .i64 d3, .pointer p3] ∧ CF wx (.agg #[.int .i64 n1, .int .i64 d1, .pointer p1]) ((la : Int) : Rat) (max k1x (max k1y k1z) + 3) ∧ CF wx (.agg #[.int .i64 n2, .int .i64 d2, .pointer p2]) ((lb : Int) : Rat) (max k1x (max k1y k1z) + 3) ∧ CF wx (.agg #[.int .i64 n3, .int .i64 d3, .pointer p3]) ((lc : Int) : Rat) (max k1x (max k1y k1z) + 3) ∧ Bx wx (w.heap.size + 1) 161 [.int .i64 0, .int .i64 0, .pointer none, .int .i64 0, .int .i64 0, .pointer none, .int .i64 0, .int .i64 0, .pointer none] ∧ Kp w wx)
 case first =>
  refine rgn [] [] fun hH => ?_; refine tk 0 hH ?_; refine tk 1 hH ?_; refine tk 3 hH ?_; refine tk 4 hH ?_; refine tk 6 hH ?_; refine tk 7 hH ?_; refine Az (rs := [2, 10]) (by kernel_rfl) (by simp) ?_; refine Lm.cons (by simp; rfl) (fun K hK => ?_) (Lm.cons (by simp; rfl) (fun K hK => ?_) Lm.nil); go_simp; refine Ab (Fw (by omega)) ?_; intros; refine hd hK fun hH => ?_; refine Az (rs := [5, 10]) (by kernel_rfl) (by simp) ?_; refine Lm.cons (by simp; rfl) (fun K hK => ?_) (Lm.cons (by simp; rfl) (fun K hK => ?_) Lm.nil); go_simp; refine Ab (Fw (by omega)) ?_; intros; refine hd hK fun hH => ?_; refine Az (rs := [8, 10]) (by kernel_rfl) (by simp) ?_; refine Lm.cons (by simp; rfl) (fun K hK => ?_) (Lm.cons (by simp; rfl) (fun K hK => ?_) Lm.nil); go_simp; refine Ab (Fw (by omega)) ?_; intros; refine hd hK fun hH => ?_; refine tk 9 hH (st 10 fun K hK => ?_); go_simp; refine hd hK fun hH => st 11 fun K hK => ?_; go_simp; refine hd hK fun hH => dn ?_; clear hH; go_wp2_with fail; go_meet; exact ⟨_, _, _, _, _, _, _, _, _, _, rfl, ii, CF.cast ii rfl (by omega), CF.cast ii rfl (by omega), CF.cast ii rfl (by omega), ii, ii⟩; go_simp; refine hd hK fun hH => st 8 fun K hK => ?_; go_simp; refine Ab (Fw (by omega)) ?_; intros; refine hd hK fun hH => ?_; refine tk 9 hH (st 11 fun K hK => ?_); go_simp; refine hd hK fun hH => dn ?_; clear hH; go_wp2_with fail; go_meet; exact ⟨_, _, _, _, _, _, _, _, _, _, rfl, ii, CF.cast ii rfl (by omega), CF.cast ii rfl (by omega), CF.cast ii rfl (by omega), ii, ii⟩; go_simp; refine hd hK fun hH => st 5 fun K hK => ?_; go_simp; refine Ab (Fw (by omega)) ?_; intros; refine hd hK fun hH => st 8 fun K hK => ?_; go_simp; refine Ab (Fw (by omega)) ?_; intros; refine hd hK fun hH => ?_; refine tk 9 hH (st 11 fun K hK => ?_); go_simp; refine hd hK fun hH => dn ?_; clear hH; go_wp2_with fail; go_meet; exact ⟨_, _, _, _, _, _, _, _, _, _, rfl, ii, CF.cast ii rfl (by omega), CF.cast ii rfl (by omega), CF.cast ii rfl (by omega), ii, ii⟩; go_simp; refine hd hK fun hH => st 2 fun K hK => ?_; go_simp; refine Ab (Fw (by omega)) ?_; intros; refine hd hK fun hH => st 5 fun K hK => ?_; go_simp; refine Ab (Fw (by omega)) ?_; intros; refine hd hK fun hH => st 8 fun K hK => ?_; go_simp; refine Ab (Fw (by omega)) ?_; intros; refine hd hK fun hH => ?_; refine tk 9 hH (st 11 fun K hK => ?_); go_simp; refine hd hK fun hH => dn ?_; clear hH; go_wp2_with fail; go_meet; exact ⟨_, _, _, _, _, _, _, _, _, _, rfl, ii, CF.cast ii rfl (by omega), CF.cast ii rfl (by omega), CF.cast ii rfl (by omega), ii, ii⟩
 case rest =>
  obtain ⟨q, n1, d1, p1, n2, d2, p2, n3, d3, p3, rfl, i1, i2, i3, i4, i5, i6⟩ := hcut
  cases u with
  | true =>
   have HY' := Lib.hid (HY.out rfl)
   clear HY; go_wp2_with fail; refine rgn [] [] fun hH => ?_; refine tk 0 hH ?_; refine tk 1 hH (st 2 fun K hK => ?_); go_simp; refine Aa (Gj HX) ?_; intros; refine hd hK fun hH => ?_; refine tk 3 hH ?_; refine tk 4 hH ?_; refine tk 5 hH (st 6 fun K hK => ?_); go_simp; refine Aa (Gj HY') ?_; intros; refine hd hK fun hH => ?_; refine tk 7 hH ?_; refine tk 8 hH ?_; refine tk 9 hH ?_; refine tk 10 hH ?_; refine tk 11 hH ?_; refine tk 12 hH ?_; refine tk 14 hH ?_; refine tk 15 hH (st 13 fun K hK => ?_); go_simp; refine Ab (Iv (by omega)) ?_; intros; refine hd hK fun hH => st 16 fun K hK => ?_; go_simp; refine Ab (Iv (by omega)) ?_; intros; refine hd hK fun hH => st 17 fun K hK => ?_; go_simp; refine Ab (H8 (by omega)) ?_; intros; refine hd hK fun hH => st 18 fun K hK => ?_; go_simp; refine Aa (Xe (by omega) HG) ?_; intros; refine hd hK fun hH => ?_; refine tk 19 hH ?_; refine tk 20 hH (dn ?_); clear hH; go_wp2_with fail
   refine B6 rfl Tryz.underlying161 rfl (by kernel_rfl) rfl rfl rfl ?_
   exact Kt.fin rfl (by omega) rfl (by omega) rfl (by omega)
  | false =>
   clear HY; go_wp2_with fail; refine rgn [] [] fun hH => ?_; refine tk 0 hH ?_; refine tk 1 hH (st 2 fun K hK => ?_); go_simp; refine Aa (Gj HX) ?_; intros; refine hd hK fun hH => ?_; refine tk 3 hH ?_; refine tkU 4 hH ?_; refine tkU 5 hH ?_; refine tkU 6 hH ?_; refine tk 7 hH ?_; refine tk 8 hH ?_; refine tk 9 hH ?_; refine tk 10 hH ?_; refine tk 11 hH ?_; refine tk 12 hH ?_; refine tk 14 hH ?_; refine tk 15 hH (st 13 fun K hK => ?_); go_simp; refine Ab (Iv (by omega)) ?_; intros; refine hd hK fun hH => st 16 fun K hK => ?_; go_simp; refine Ab (Iv (by omega)) ?_; intros; refine hd hK fun hH => st 17 fun K hK => ?_; go_simp; refine Ab (H8 (by omega)) ?_; intros; refine hd hK fun hH => st 18 fun K hK => ?_; go_simp; refine Aa (Xe (by omega) HG) ?_; intros; refine hd hK fun hH => ?_; refine tk 19 hH ?_; refine tk 20 hH (dn ?_); clear hH; go_wp2_with fail
   refine B6 rfl Tryz.underlying161 rfl (by kernel_rfl) rfl rfl rfl ?_
   exact Kt.fin rfl (by omega) rfl (by omega) rfl (by omega)
theorem Qkc {n1x d1x n1y d1y n1z d1z : Int} {p1x p1y p1z : Option Addr} {la lb lc : Rat} [h1x : CF w (.agg #[.int .i64 n1x, .int .i64 d1x, .pointer p1x]) la k1x] [h1y : CF w (.agg #[.int .i64 n1y, .int .i64 d1y, .pointer p1y]) lb k1y] [h1z : CF w (.agg #[.int .i64 n1z, .int .i64 d1z, .pointer p1z]) lc k1z] (b : k1x ≤ 300000 ∧ k1y ≤ 300000 ∧ k1z ≤ 300000) :
  Calls Tryz.prog 90 #[.agg #[.int .i64 n1x, .int .i64 d1x, .pointer p1x, .int .i64 n1y, .int .i64 d1y, .pointer p1y, .int .i64 n1z, .int .i64 d1z, .pointer p1z]] w (Yz w (la.num) (lb.num) (lc.num) (max k1x (max k1y k1z))) := by
 go_enter Tryz.func90, Tryz.ntmps90; go_wp2_with fail; refine rgn [w.heap.size + 1] [] fun hH => ?_; refine tk 0 hH ?_; refine tk 1 hH ?_; refine tk 3 hH ?_; refine tk 4 hH ?_; refine tk 6 hH ?_; refine tk 7 hH (st 2 fun K hK => ?_); go_simp; refine Al (B7 (by omega)) ?_; intros; refine hd hK fun hH => st 5 fun K hK => ?_; go_simp; refine Al (B7 (by omega)) ?_; intros; refine hd hK fun hH => st 8 fun K hK => ?_; go_simp; refine Al (B7 (by omega)) ?_; intros; refine hd hK fun hH => ?_; refine tk 9 hH (st 10 fun K hK => ?_); go_simp; refine hd hK fun hH => dn ?_; clear hH; go_wp2; refine Ac rfl Tryz.underlying181 rfl (by kernel_rfl) rfl rfl rfl ?_; exact Yz.fin rfl (by omega) rfl (by omega) rfl (by omega)
end
end Go.Proofs.YtpnpnlmlamfpmaaGreatDoor
