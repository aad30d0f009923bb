/-
  Texts of this claim, joined: Ln2.
-/
import Derived.Test.YtfdgglddldlpjaaGreatGN
import Derived.Test.YtfdgglddldlpjaaGreatGO
import Derived.Deep.CutRange
/- Lines of package geo: from coefficients, from package api and back. printed by a small program (mkln2.py). -/
namespace Go.Proofs.YtfdgglddldlpjaaGreat
open Go.RowKit
set_option maxRecDepth 100000
set_option maxHeartbeats 40000000
set_option synthInstance.maxSize 100000
set_option synthInstance.maxHeartbeats 1000000
set_option linter.unusedVariables false

theorem ret_bt {P : Program} {fn : Func} {R : Ending → World → Prop} {a : Act} {W : World} {b : Nat} {p u : Tmp} {ty t : TypeId} {d : TypeDesc} {l l' : List Value} [hb : Bx W b t l] (hr : fn.results = #[.cell p ty, .tmp u])
    (hu : P.underlying ty = some d) (hd : (match d with | .struct _ | .array _ _ => true | _ => false) = true) (hi : (P.info? ty).map (·.size) = some l.length)
    (hp : a.tmps.getD p undef = .pointer (some ⟨b, 0, none⟩)) (hdf : a.defers = []) (hl : l = l') (hR : R (.returned (.tuple #[.agg l'.toArray, a.tmps.getD u undef])) W) : bodyPost P fn R .ret a W := by
  subst hl
  exact ret_ct hr hp (loadVar_at W b ty l d hu hd hi (fun j hj => by rw [cell_bx, List.getElem?_eq_getElem hj])) hdf hR
def phiF (x : Rat) (k : Nat) (v : Value) (W : World) : Prop := ∃ n d p, v = .agg #[.int .i64 n, .int .i64 d, .pointer p] ∧ CF W (.agg #[.int .i64 n, .int .i64 d, .pointer p]) x k
instance {x : Rat} {k : Nat} : Last (phiF x k) := ⟨fun _ _ _ hb ⟨n, d, p, e, _⟩ => have := Kp1.mk hb; ⟨n, d, p, e, inferInstance⟩⟩
/-- A row of n elements that was made after w0. -/
def phiS (w0 : World) (t : TypeId) (l : List Value) (n : Nat) (v : Value) (W : World) : Prop := ∃ b, v = .slice (some ⟨b, 0, none⟩) n n ∧ Bx W b t l ∧ Ge w0 b ∧ Gg w0 b
instance {w0 : World} {t : TypeId} {l : List Value} {n : Nat} : Last (phiS w0 t l n) := ⟨fun _ _ _ hb ⟨b, e, _, h1, h2⟩ => have := Kp1.mk hb; ⟨b, e, inferInstance, h1, h2⟩⟩
theorem phiS.fin {w0 W : World} {t : TypeId} {l : List Value} {n b : Nat} [h : Bx W b t l] [h1 : Ge w0 b] [h2 : Gg w0 b] : phiS w0 t l n (.slice (some ⟨b, 0, none⟩) n n) W := ⟨b, rfl, h, h1, h2⟩
theorem phiF.fin {x x' : Rat} {k k' : Nat} {n d : Int} {p : Option Addr} {W : World} [h : CF W (.agg #[.int .i64 n, .int .i64 d, .pointer p]) x' k'] (e : x' = x) (b : k' ≤ k) : phiF x k (.agg #[.int .i64 n, .int .i64 d, .pointer p]) W := ⟨n, d, p, rfl, h.cast e b⟩
/-- A value of the kind LF and a Boolean are returned; nothing that was there has changed. -/
def LFBRet (w : World) (x y z : Rat) (v : Bool) (k : Nat) (e : Ending) (w' : World) : Prop := ∃ nx dx px ny dy py nz dz pz, e = .returned (.tuple #[.agg #[.int .i64 nx, .int .i64 dx, .pointer px, .int .i64 ny, .int .i64 dy, .pointer py, .int .i64 nz, .int .i64 dz, .pointer pz], .bool v]) ∧ CF w' (.agg #[.int .i64 nx, .int .i64 dx, .pointer px]) x k ∧ CF w' (.agg #[.int .i64 ny, .int .i64 dy, .pointer py]) y k ∧ CF w' (.agg #[.int .i64 nz, .int .i64 dz, .pointer pz]) z k ∧ Below w.heap.size w w'
theorem Calls.cLFB {P : Program} {f : FuncId} {args : Array Value} {w : World} {x y z : Rat} {v : Bool} {k : Nat} {K : Ending → World → Prop} (h : Calls P f args w (LFBRet w x y z v k))
    (hK : ∀ w' [Kp1 w w'] (nx : Int) (dx : Int) (px : Option Addr) (ny : Int) (dy : Int) (py : Option Addr) (nz : Int) (dz : Int) (pz : Option Addr) [CF w' (.agg #[.int .i64 nx, .int .i64 dx, .pointer px]) x k] [CF w' (.agg #[.int .i64 ny, .int .i64 dy, .pointer py]) y k] [CF w' (.agg #[.int .i64 nz, .int .i64 dz, .pointer pz]) z k], K (.returned (.tuple #[.agg #[.int .i64 nx, .int .i64 dx, .pointer px, .int .i64 ny, .int .i64 dy, .pointer py, .int .i64 nz, .int .i64 dz, .pointer pz], .bool v])) w') : Calls P f args w K := by
  refine h.mono ?_
  rintro e w' ⟨nx, dx, px, ny, dy, py, nz, dz, pz, rfl, hx, hy, hz, hb⟩
  exact @hK w' ⟨hb⟩ nx dx px ny dy py nz dz pz hx hy hz
theorem LFBRet.fin {w w' : World} {v : Bool} {nx : Int} {dx : Int} {px : Option Addr} {ny : Int} {dy : Int} {py : Option Addr} {nz : Int} {dz : Int} {pz : Option Addr} {x x' : Rat} {kx : Nat} {y y' : Rat} {ky : Nat} {z z' : Rat} {kz : Nat} {k : Nat} [b : Kp w w'] [hx : CF w' (.agg #[.int .i64 nx, .int .i64 dx, .pointer px]) x kx] [hy : CF w' (.agg #[.int .i64 ny, .int .i64 dy, .pointer py]) y ky] [hz : CF w' (.agg #[.int .i64 nz, .int .i64 dz, .pointer pz]) z kz] (ex : x = x') (mx : kx ≤ k) (ey : y = y') (my : ky ≤ k) (ez : z = z') (mz : kz ≤ k) : LFBRet w x' y' z' v k (.returned (.tuple #[.agg #[.int .i64 nx, .int .i64 dx, .pointer px, .int .i64 ny, .int .i64 dy, .pointer py, .int .i64 nz, .int .i64 dz, .pointer pz], .bool v])) w' :=
  ⟨_, _, _, _, _, _, _, _, _, rfl, hx.cast ex mx, hy.cast ey my, hz.cast ez mz, b.out⟩
/-- A value of the kind LZ and a Boolean are returned; nothing that was there has changed. -/
def LZBRet (w : World) (x y z : Int) (v : Bool) (k : Nat) (e : Ending) (w' : World) : Prop := ∃ gx ax lx cx gy ay ly cy gz az lz cz, e = .returned (.tuple #[.agg #[.bool gx, .slice ax lx cx, .bool gy, .slice ay ly cy, .bool gz, .slice az lz cz], .bool v]) ∧ CZ w' (.agg #[.bool gx, .slice ax lx cx]) x k ∧ CZ w' (.agg #[.bool gy, .slice ay ly cy]) y k ∧ CZ w' (.agg #[.bool gz, .slice az lz cz]) z k ∧ Below w.heap.size w w'
theorem Calls.cLZB {P : Program} {f : FuncId} {args : Array Value} {w : World} {x y z : Int} {v : Bool} {k : Nat} {K : Ending → World → Prop} (h : Calls P f args w (LZBRet w x y z v k))
    (hK : ∀ w' [Kp1 w w'] (gx : Bool) (ax : Option Addr) (lx : Nat) (cx : Nat) (gy : Bool) (ay : Option Addr) (ly : Nat) (cy : Nat) (gz : Bool) (az : Option Addr) (lz : Nat) (cz : Nat) [CZ w' (.agg #[.bool gx, .slice ax lx cx]) x k] [CZ w' (.agg #[.bool gy, .slice ay ly cy]) y k] [CZ w' (.agg #[.bool gz, .slice az lz cz]) z k], K (.returned (.tuple #[.agg #[.bool gx, .slice ax lx cx, .bool gy, .slice ay ly cy, .bool gz, .slice az lz cz], .bool v])) w') : Calls P f args w K := by
  refine h.mono ?_
  rintro e w' ⟨gx, ax, lx, cx, gy, ay, ly, cy, gz, az, lz, cz, rfl, hx, hy, hz, hb⟩
  exact @hK w' ⟨hb⟩ gx ax lx cx gy ay ly cy gz az lz cz hx hy hz
theorem LZBRet.fin {w w' : World} {v : Bool} {gx : Bool} {ax : Option Addr} {lx : Nat} {cx : Nat} {gy : Bool} {ay : Option Addr} {ly : Nat} {cy : Nat} {gz : Bool} {az : Option Addr} {lz : Nat} {cz : Nat} {x x' : Int} {kx : Nat} {y y' : Int} {ky : Nat} {z z' : Int} {kz : Nat} {k : Nat} [b : Kp w w'] [hx : CZ w' (.agg #[.bool gx, .slice ax lx cx]) x kx] [hy : CZ w' (.agg #[.bool gy, .slice ay ly cy]) y ky] [hz : CZ w' (.agg #[.bool gz, .slice az lz cz]) z kz] (ex : x = x') (mx : kx ≤ k) (ey : y = y') (my : ky ≤ k) (ez : z = z') (mz : kz ≤ k) : LZBRet w x' y' z' v k (.returned (.tuple #[.agg #[.bool gx, .slice ax lx cx, .bool gy, .slice ay ly cy, .bool gz, .slice az lz cz], .bool v])) w' :=
  ⟨_, _, _, _, _, _, _, _, _, _, _, _, rfl, hx.cast ex mx, hy.cast ey my, hz.cast ez mz, b.out⟩
/-- A value of the kind PF and a Boolean are returned; nothing that was there has changed. -/
def PFBRet (w : World) (x y : Rat) (v : Bool) (k : Nat) (e : Ending) (w' : World) : Prop := ∃ nx dx px ny dy py, e = .returned (.tuple #[.agg #[.int .i64 nx, .int .i64 dx, .pointer px, .int .i64 ny, .int .i64 dy, .pointer py], .bool v]) ∧ CF w' (.agg #[.int .i64 nx, .int .i64 dx, .pointer px]) x k ∧ CF w' (.agg #[.int .i64 ny, .int .i64 dy, .pointer py]) y k ∧ Below w.heap.size w w'
theorem Calls.cPFB {P : Program} {f : FuncId} {args : Array Value} {w : World} {x y : Rat} {v : Bool} {k : Nat} {K : Ending → World → Prop} (h : Calls P f args w (PFBRet w x y v k))
    (hK : ∀ w' [Kp1 w w'] (nx : Int) (dx : Int) (px : Option Addr) (ny : Int) (dy : Int) (py : Option Addr) [CF w' (.agg #[.int .i64 nx, .int .i64 dx, .pointer px]) x k] [CF w' (.agg #[.int .i64 ny, .int .i64 dy, .pointer py]) y k], K (.returned (.tuple #[.agg #[.int .i64 nx, .int .i64 dx, .pointer px, .int .i64 ny, .int .i64 dy, .pointer py], .bool v])) w') : Calls P f args w K := by
  refine h.mono ?_
  rintro e w' ⟨nx, dx, px, ny, dy, py, rfl, hx, hy, hb⟩
  exact @hK w' ⟨hb⟩ nx dx px ny dy py hx hy
theorem PFBRet.fin {w w' : World} {v : Bool} {nx : Int} {dx : Int} {px : Option Addr} {ny : Int} {dy : Int} {py : Option Addr} {x x' : Rat} {kx : Nat} {y y' : Rat} {ky : Nat} {k : Nat} [b : Kp w w'] [hx : CF w' (.agg #[.int .i64 nx, .int .i64 dx, .pointer px]) x kx] [hy : CF w' (.agg #[.int .i64 ny, .int .i64 dy, .pointer py]) y ky] (ex : x = x') (mx : kx ≤ k) (ey : y = y') (my : ky ≤ k) : PFBRet w x' y' v k (.returned (.tuple #[.agg #[.int .i64 nx, .int .i64 dx, .pointer px, .int .i64 ny, .int .i64 dy, .pointer py], .bool v])) w' :=
  ⟨_, _, _, _, _, _, rfl, hx.cast ex mx, hy.cast ey my, b.out⟩
/-- A value of the kind PA and a Boolean are returned; nothing that was there has changed. -/
def PABRet (w : World) (x y : Rat) (v : Bool) (k : Nat) (e : Ending) (w' : World) : Prop := ∃ gx ax lx cx aax llx ccx gy ay ly cy aay lly ccy, e = .returned (.tuple #[.agg #[.bool gx, .slice ax lx cx, .slice aax llx ccx, .bool gy, .slice ay ly cy, .slice aay lly ccy], .bool v]) ∧ CA w' (.agg #[.bool gx, .slice ax lx cx, .slice aax llx ccx]) x k ∧ CA w' (.agg #[.bool gy, .slice ay ly cy, .slice aay lly ccy]) y k ∧ Below w.heap.size w w'
theorem Calls.cPAB {P : Program} {f : FuncId} {args : Array Value} {w : World} {x y : Rat} {v : Bool} {k : Nat} {K : Ending → World → Prop} (h : Calls P f args w (PABRet w x y v k))
    (hK : ∀ w' [Kp1 w w'] (gx : Bool) (ax : Option Addr) (lx : Nat) (cx : Nat) (aax : Option Addr) (llx : Nat) (ccx : Nat) (gy : Bool) (ay : Option Addr) (ly : Nat) (cy : Nat) (aay : Option Addr) (lly : Nat) (ccy : Nat) [CA w' (.agg #[.bool gx, .slice ax lx cx, .slice aax llx ccx]) x k] [CA w' (.agg #[.bool gy, .slice ay ly cy, .slice aay lly ccy]) y k], K (.returned (.tuple #[.agg #[.bool gx, .slice ax lx cx, .slice aax llx ccx, .bool gy, .slice ay ly cy, .slice aay lly ccy], .bool v])) w') : Calls P f args w K := by
  refine h.mono ?_
  rintro e w' ⟨gx, ax, lx, cx, aax, llx, ccx, gy, ay, ly, cy, aay, lly, ccy, rfl, hx, hy, hb⟩
  exact @hK w' ⟨hb⟩ gx ax lx cx aax llx ccx gy ay ly cy aay lly ccy hx hy
theorem PABRet.fin {w w' : World} {v : Bool} {gx : Bool} {ax : Option Addr} {lx : Nat} {cx : Nat} {aax : Option Addr} {llx : Nat} {ccx : Nat} {gy : Bool} {ay : Option Addr} {ly : Nat} {cy : Nat} {aay : Option Addr} {lly : Nat} {ccy : Nat} {x x' : Rat} {kx : Nat} {y y' : Rat} {ky : Nat} {k : Nat} [b : Kp w w'] [hx : CA w' (.agg #[.bool gx, .slice ax lx cx, .slice aax llx ccx]) x kx] [hy : CA w' (.agg #[.bool gy, .slice ay ly cy, .slice aay lly ccy]) y ky] (ex : x = x') (mx : kx ≤ k) (ey : y = y') (my : ky ≤ k) : PABRet w x' y' v k (.returned (.tuple #[.agg #[.bool gx, .slice ax lx cx, .slice aax llx ccx, .bool gy, .slice ay ly cy, .slice aay lly ccy], .bool v])) w' :=
  ⟨_, _, _, _, _, _, _, _, _, _, _, _, _, _, rfl, hx.cast ex mx, hy.cast ey my, b.out⟩
instance (priority := low) CF.zz {W : World} : CF W (.agg #[.int .i64 0, .int .i64 0, .pointer none]) 0 2 := CF.zero (by omega)
theorem rZeroV {w : World} {v : Bool} {n1 d1 : Int} {p1 : Option Addr} {x : Rat} {k1 : Nat} [h1 : CF w (.agg #[.int .i64 n1, .int .i64 d1, .pointer p1]) x k1] (hv : Hid (decide (x = 0) = v)) :
    Calls Tryz.prog 81 #[.agg #[.int .i64 n1, .int .i64 d1, .pointer p1]] w (fun e w' => e = .returned (.bool v) ∧ Below w.heap.size w w') := by
  rw [← hv.out]; exact rZeroC
theorem makeNo {w : World} {n1 d1 n2 d2 n3 d3 : Int} {p1 p2 p3 : Option Addr} {x y z : Rat} {k1 k2 k3 : Nat} [h1 : CF w (.agg #[.int .i64 n1, .int .i64 d1, .pointer p1]) x k1] [h2 : CF w (.agg #[.int .i64 n2, .int .i64 d2, .pointer p2]) y k2] [h3 : CF w (.agg #[.int .i64 n3, .int .i64 d3, .pointer p3]) z k3] (h0 : Hid (x = 0 ∧ y = 0)) :
    Calls Tryz.prog 51 #[.agg #[.int .i64 n1, .int .i64 d1, .pointer p1], .agg #[.int .i64 n2, .int .i64 d2, .pointer p2], .agg #[.int .i64 n3, .int .i64 d3, .pointer p3]] w (LFBRet w 0 0 0 false 2) := by
  have HX : Hid (decide (x = 0) = true) := decide_eq_true h0.out.1
  have HY : Hid (decide (y = 0) = true) := decide_eq_true h0.out.2
  go_enter Tryz.func51, Tryz.ntmps51
  go_wp2_with (first
    | (go_at_call 81; (with_reducible refine Calls.cE (rZeroV HX) ?_); intros)
    | (go_at_call 81; (with_reducible refine Calls.cE (rZeroV HY) ?_); intros))
  refine ret_bt rfl Tryz.underlying94 rfl (by kernel_rfl) rfl rfl rfl ?_
  exact LFBRet.fin rfl (by omega) rfl (by omega) rfl (by omega)

theorem makeOk {w : World} {n1 d1 n2 d2 n3 d3 : Int} {p1 p2 p3 : Option Addr} {x y z : Rat} {k1 k2 k3 : Nat} [h1 : CF w (.agg #[.int .i64 n1, .int .i64 d1, .pointer p1]) x k1] [h2 : CF w (.agg #[.int .i64 n2, .int .i64 d2, .pointer p2]) y k2] [h3 : CF w (.agg #[.int .i64 n3, .int .i64 d3, .pointer p3]) z k3] (b : k1 ≤ 10000 ∧ k2 ≤ 10000 ∧ k3 ≤ 10000) (h0 : Hid (¬ (x = 0 ∧ y = 0))) :
    Calls Tryz.prog 51 #[.agg #[.int .i64 n1, .int .i64 d1, .pointer p1], .agg #[.int .i64 n2, .int .i64 d2, .pointer p2], .agg #[.int .i64 n3, .int .i64 d3, .pointer p3]] w (LFBRet w (lnK x x y z) (lnK y x y z) (lnK z x y z) true (2 * (k1 + k2 + k3) + 60)) := by
  have hm : ∀ (v : Value) (W : World), (Go.method 333 92 v "Mul").run Tryz.prog W = .ok (136, v) W := fun _ _ => by kernel_rfl
  obtain ⟨u, hu⟩ : ∃ u, decide (x = 0) = u := ⟨_, rfl⟩
  have HX := Lib.hid hu
  have HY : Hid (u = true → decide (y = 0) = false) := fun e => decide_eq_false (fun h => h0.out ⟨of_decide_eq_true (hu.trans e), h⟩)
  clear hu
  go_enter Tryz.func51, Tryz.ntmps51
  go_upto_region 1 with fail
  go_cut [14] from 9 to 14 (fun t wx => t = .bool false ∧ Bx wx w.heap.size 92 [.int .i64 n1, .int .i64 d1, .pointer p1] ∧ Bx wx (w.heap.size + 1) 92 [.int .i64 n2, .int .i64 d2, .pointer p2] ∧ Bx wx (w.heap.size + 1 + 1) 92 [.int .i64 n3, .int .i64 d3, .pointer p3] ∧ Bx wx (w.heap.size + 1 + 1 + 1) 94 [.int .i64 0, .int .i64 0, .pointer none, .int .i64 0, .int .i64 0, .pointer none, .int .i64 0, .int .i64 0, .pointer none] ∧ CF wx (.agg #[.int .i64 n1, .int .i64 d1, .pointer p1]) x k1 ∧ CF wx (.agg #[.int .i64 n2, .int .i64 d2, .pointer p2]) y k2 ∧ CF wx (.agg #[.int .i64 n3, .int .i64 d3, .pointer p3]) z k3 ∧ Kp w wx)
  case first =>
    cases u with
    | true =>
      have HY' := Lib.hid (HY.out rfl)
      clear HY
      go_wp2_with (first
        | (go_at_call 81; (with_reducible refine Calls.cE (rZeroV HX) ?_); intros)
        | (go_at_call 81; (with_reducible refine Calls.cE (rZeroV HY') ?_); intros))
      go_meet
      exact ⟨rfl, inferInstance, inferInstance, inferInstance, inferInstance, inferInstance, inferInstance, inferInstance, inferInstance⟩
    | false =>
      go_wp2_with (first
        | (go_at_call 81; (with_reducible refine Calls.cE (rZeroV HX) ?_); intros))
      go_meet
      exact ⟨rfl, inferInstance, inferInstance, inferInstance, inferInstance, inferInstance, inferInstance, inferInstance, inferInstance⟩
  case rest =>
    obtain ⟨rfl, i1, i2, i3, i4, i5, i6, i7, i8⟩ := hcut
    clear HX HY
    go_wp2_with fail
    refine rgn [] [] fun hHeld => ?_
    refine tk 0 hHeld ?_
    refine tk 1 hHeld ?_
    refine tk 3 hHeld ?_
    refine tk 6 hHeld ?_
    refine tk 7 hHeld ?_
    refine tk 8 hHeld ?_
    refine wpAnyT_inv [(2, 18), (4, 20), (5, 21), (9, 25)] (fun i => match i with | 2 => [] | 4 => [2] | 5 => [4] | 9 => [] | _ => []) [phiF (rgcd x y) (k1 + k2 + 6), phiF (rgcd (rgcd x y) z) (k1 + k2 + k3 + 12), phiF (rgcd (rgcd x y) z)⁻¹ (k1 + k2 + k3 + 14), phiS wc 92 [.int .i64 n1, .int .i64 d1, .pointer p1, .int .i64 n2, .int .i64 d2, .pointer p2, .int .i64 n3, .int .i64 d3, .pointer p3] 3] [] 2 (by rfl) (by decide +kernel) (by decide) (by decide) (by kernel_rfl) ?_ (fun _ _ => Ex.below) hHeld ?_ ?_
    · exact fun i hi => nomatch hi
    · intro i hi f W hSw hbw hp
      have kw := Kp1.mk hbw
      have hSx := Ex1.mk hSw
      clear hHeld
      simp only [List.map_cons, List.map_nil, List.mem_cons, List.not_mem_nil, or_false] at hi
      rcases hi with rfl | rfl | rfl | rfl
      · refine ⟨_, by simp; rfl, fun K' hK => ?_⟩
        clear hp
        simp only [putAll, Act.put, List.setIfInBounds_toArray, List.set_cons_zero, List.set_cons_succ] at hK ⊢
        generalize f 2 = v2 at *
        generalize f 4 = v4 at *
        generalize f 5 = v5 at *
        generalize f 9 = v9 at *
        go_simp
        (with_reducible refine Calls.cF (fracGcdC (by omega)) ?_); intros
        refine hK.out _ _ _ rfl (inferInstance : Kp W _).out ?_ ?_
        · exact phiF.fin rfl (by omega)
        · exact fun h => absurd h (by decide)
      · have h2 : phiF (rgcd x y) (k1 + k2 + 6) (f 2) W := hp 2 (by decide)
        refine ⟨_, by simp; rfl, fun K' hK => ?_⟩
        clear hp
        simp only [putAll, Act.put, List.setIfInBounds_toArray, List.set_cons_zero, List.set_cons_succ] at hK ⊢
        generalize f 2 = v2 at *
        generalize f 4 = v4 at *
        generalize f 5 = v5 at *
        generalize f 9 = v9 at *
        obtain ⟨n2, d2, p2, rfl, i2⟩ := h2
        go_simp
        (with_reducible refine Calls.cF (fracGcdC (by omega)) ?_); intros
        refine hK.out _ _ _ rfl (inferInstance : Kp W _).out ?_ ?_
        · exact phiF.fin rfl (by omega)
        · exact fun h => absurd h (by decide)
      · have h4 : phiF (rgcd (rgcd x y) z) (k1 + k2 + k3 + 12) (f 4) W := hp 4 (by decide)
        refine ⟨_, by simp; rfl, fun K' hK => ?_⟩
        clear hp
        simp only [putAll, Act.put, List.setIfInBounds_toArray, List.set_cons_zero, List.set_cons_succ] at hK ⊢
        generalize f 2 = v2 at *
        generalize f 4 = v4 at *
        generalize f 5 = v5 at *
        generalize f 9 = v9 at *
        obtain ⟨n4, d4, p4, rfl, i4⟩ := h4
        go_simp
        (with_reducible refine Calls.cF (rInvC (by omega)) ?_); intros
        refine hK.out _ _ _ rfl (inferInstance : Kp W _).out ?_ ?_
        · exact phiF.fin rfl (by omega)
        · exact fun h => absurd h (by decide)
      · refine ⟨_, by simp; rfl, fun K' hK => ?_⟩
        clear hp
        simp only [putAll, Act.put, List.setIfInBounds_toArray, List.set_cons_zero, List.set_cons_succ] at hK ⊢
        generalize f 2 = v2 at *
        generalize f 4 = v4 at *
        generalize f 5 = v5 at *
        generalize f 9 = v9 at *
        go_simp
        refine hK.out _ _ _ rfl (inferInstance : Kp W _).out ?_ ?_
        · exact phiS.fin
        · exact fun h => absurd h (by decide)
    · intro f W hSw hbw hf hne
      have kw := Kp1.mk hbw
      have hSx := Ex1.mk hSw
      clear hHeld
      have h2 : phiF (rgcd x y) (k1 + k2 + 6) (f 2) W := hf 2 (by decide)
      have h4 : phiF (rgcd (rgcd x y) z) (k1 + k2 + k3 + 12) (f 4) W := hf 4 (by decide)
      have h5 : phiF (rgcd (rgcd x y) z)⁻¹ (k1 + k2 + k3 + 14) (f 5) W := hf 5 (by decide)
      have h9 : phiS wc 92 [.int .i64 n1, .int .i64 d1, .pointer p1, .int .i64 n2, .int .i64 d2, .pointer p2, .int .i64 n3, .int .i64 d3, .pointer p3] 3 (f 9) W := hf 9 (by decide)
      clear hf hne
      simp only [putAll, lset, List.map_cons, List.map_nil, Act.put, List.setIfInBounds_toArray, List.set_cons_zero, List.set_cons_succ]
      generalize f 2 = v2 at *
      generalize f 4 = v4 at *
      generalize f 5 = v5 at *
      generalize f 9 = v9 at *
      obtain ⟨n2, d2, p2, rfl, i2⟩ := h2
      obtain ⟨n4, d4, p4, rfl, i4⟩ := h4
      obtain ⟨n5, d5, p5, rfl, i5⟩ := h5
      obtain ⟨b9, rfl, i9, j9, k9⟩ := h9
      have hl4 := Bx.lt (W := wc) (b := w.heap.size + 1 + 1 + 1) inferInstance
      have nn : NeN b9 (w.heap.size + 1 + 1 + 1) := ⟨by have h1 := j9.out; omega⟩
      clear hl4
      have gw : Ge w b9 := ⟨by have h1 := j9.out; have h2 := i8.out.size; omega⟩
      have hHeld := hSw
      refine st 10 fun K hK => ?_
      go_simp
      go_enter Tryz.func115, Tryz.ntmps115
      go_wp2_with fail
      refine wp_loop_rounds 4 ?_
      rw [rounds_succ]
      go_wp2_with fail
      refine rgn [] [10] fun hHeld => ?_
      refine tk 0 hHeld ?_
      refine tk 1 hHeld ?_
      refine tk 2 hHeld ?_
      refine tk 3 hHeld ?_
      refine tk 4 hHeld ?_
      refine tk 5 hHeld ?_
      refine tk 6 hHeld ?_
      refine tk 7 hHeld ?_
      refine st 8 fun K hK => ?_
      go_simp
      (go_at_call 136; (with_reducible refine Calls.cF (rMulC (by omega)) ?_); intros)
      refine hd hK ?_
      clear hHeld hK
      intro hHeld
      refine tk 9 hHeld ?_
      refine st 10 fun K hK => ?_
      go_simp
      refine hdT hK ?_
      clear hK K
      refine dn ?_
      clear hHeld
      go_wp2_with fail
      rw [rounds_succ]
      go_wp2_with fail
      refine rgn [] [10] fun hHeld => ?_
      refine tk 0 hHeld ?_
      refine tk 1 hHeld ?_
      refine tk 2 hHeld ?_
      refine tk 3 hHeld ?_
      refine tk 4 hHeld ?_
      refine tk 5 hHeld ?_
      refine tk 6 hHeld ?_
      refine tk 7 hHeld ?_
      refine st 8 fun K hK => ?_
      go_simp
      (go_at_call 136; (with_reducible refine Calls.cF (rMulC (by omega)) ?_); intros)
      refine hd hK ?_
      clear hHeld hK
      intro hHeld
      refine tk 9 hHeld ?_
      refine st 10 fun K hK => ?_
      go_simp
      refine hdT hK ?_
      clear hK K
      refine dn ?_
      clear hHeld
      go_wp2_with fail
      rw [rounds_succ]
      go_wp2_with fail
      refine rgn [] [10] fun hHeld => ?_
      refine tk 0 hHeld ?_
      refine tk 1 hHeld ?_
      refine tk 2 hHeld ?_
      refine tk 3 hHeld ?_
      refine tk 4 hHeld ?_
      refine tk 5 hHeld ?_
      refine tk 6 hHeld ?_
      refine tk 7 hHeld ?_
      refine st 8 fun K hK => ?_
      go_simp
      (go_at_call 136; (with_reducible refine Calls.cF (rMulC (by omega)) ?_); intros)
      refine hd hK ?_
      clear hHeld hK
      intro hHeld
      refine tk 9 hHeld ?_
      refine st 10 fun K hK => ?_
      go_simp
      refine hdT hK ?_
      clear hK K
      refine dn ?_
      clear hHeld
      go_wp2_with fail
      rw [rounds_succ]
      go_wp2_with fail
      go_simp
      refine hd hK ?_
      clear hHeld hK
      intro hHeld
      refine tk 11 hHeld ?_
      refine dn ?_
      clear hHeld
      go_wp2_with fail
      refine rgn [] [10, 11] fun hHeld => ?_
      refine tk 0 hHeld ?_
      refine tk 1 hHeld ?_
      refine tk 2 hHeld ?_
      refine tk 3 hHeld ?_
      refine tk 4 hHeld ?_
      refine tk 5 hHeld ?_
      refine tk 6 hHeld ?_
      refine tk 7 hHeld ?_
      refine tk 8 hHeld ?_
      refine tk 9 hHeld ?_
      refine st 10 fun K hK => ?_
      go_simp
      refine hdT hK ?_
      clear hK K
      refine tk0 11 ?_
      refine dn ?_
      clear hHeld
      go_wp2_with fail
      refine ret_bt rfl Tryz.underlying94 rfl (by kernel_rfl) rfl rfl rfl ?_
      exact LFBRet.fin rfl (by omega) rfl (by omega) rfl (by omega)

end Go.Proofs.YtfdgglddldlpjaaGreat
