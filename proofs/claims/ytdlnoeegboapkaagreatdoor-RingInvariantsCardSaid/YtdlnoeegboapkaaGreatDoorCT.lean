/-
  Texts of this claim, joined: Rg11, Rg3e, Rg12, Tg, Mt.
-/
import Derived.Test.YtdlnoeegboapkaaGreatDoorCP
import Derived.Test.YtdlnoeegboapkaaGreatDoorCR
import Derived.Test.YtdlnoeegboapkaaGreatDoorCS
import Derived.Test.YtdlnoeegboapkaaGreatDoorCO
import Derived.Test.YtdlnoeegboapkaaGreatDoorCQ
/- The edges of a ring as segments, written; ring.Edges. printed by a small program (mkrg11.py). -/
namespace Go.Proofs.YtdlnoeegboapkaaGreatDoor
open Go.RowKit
set_option maxRecDepth 100000
set_option maxHeartbeats 40000000
set_option synthInstance.maxSize 100000
set_option synthInstance.maxHeartbeats 1000000
set_option linter.unusedVariables false

/-- A fragment is returned. -/
def FgBRet (w : World) (F : FG) (k : Nat) (e : Ending) (w' : World) : Prop := ∃ nx dx px ny dy py nz dz pz nu du pu nv dv pv, e = .returned (.tuple #[.agg #[.int .i64 nx, .int .i64 dx, .pointer px, .int .i64 ny, .int .i64 dy, .pointer py, .int .i64 nz, .int .i64 dz, .pointer pz, .int .i64 nu, .int .i64 du, .pointer pu, .int .i64 nv, .int .i64 dv, .pointer pv, .bool false, .bool false], .bool true]) ∧ CF w' (.agg #[.int .i64 nx, .int .i64 dx, .pointer px]) (((F.a : Int) : Rat)) k ∧ CF w' (.agg #[.int .i64 ny, .int .i64 dy, .pointer py]) (((F.b : Int) : Rat)) k ∧ CF w' (.agg #[.int .i64 nz, .int .i64 dz, .pointer pz]) (((F.c : Int) : Rat)) k ∧ CF w' (.agg #[.int .i64 nu, .int .i64 du, .pointer pu]) (F.lo) k ∧ CF w' (.agg #[.int .i64 nv, .int .i64 dv, .pointer pv]) (F.hi) k ∧ Below w.heap.size w w'
theorem Calls.cFgB {P : Program} {f : FuncId} {args : Array Value} {w : World} {F : FG} {k : Nat} {K : Ending → World → Prop} (h : Calls P f args w (FgBRet w F k))
    (hK : ∀ w' [Kp1 w w'] (nx : Int) (dx : Int) (px : Option Addr) (ny : Int) (dy : Int) (py : Option Addr) (nz : Int) (dz : Int) (pz : Option Addr) (nu : Int) (du : Int) (pu : Option Addr) (nv : Int) (dv : Int) (pv : Option Addr) [CF w' (.agg #[.int .i64 nx, .int .i64 dx, .pointer px]) (((F.a : Int) : Rat)) k] [CF w' (.agg #[.int .i64 ny, .int .i64 dy, .pointer py]) (((F.b : Int) : Rat)) k] [CF w' (.agg #[.int .i64 nz, .int .i64 dz, .pointer pz]) (((F.c : Int) : Rat)) k] [CF w' (.agg #[.int .i64 nu, .int .i64 du, .pointer pu]) (F.lo) k] [CF w' (.agg #[.int .i64 nv, .int .i64 dv, .pointer pv]) (F.hi) k], K (.returned (.tuple #[.agg #[.int .i64 nx, .int .i64 dx, .pointer px, .int .i64 ny, .int .i64 dy, .pointer py, .int .i64 nz, .int .i64 dz, .pointer pz, .int .i64 nu, .int .i64 du, .pointer pu, .int .i64 nv, .int .i64 dv, .pointer pv, .bool false, .bool false], .bool true])) w') : Calls P f args w K := by
  refine h.mono ?_
  rintro e w' ⟨nx, dx, px, ny, dy, py, nz, dz, pz, nu, du, pu, nv, dv, pv, rfl, hx, hy, hz, hu, hv, hb⟩
  exact @hK w' ⟨hb⟩ nx dx px ny dy py nz dz pz nu du pu nv dv pv hx hy hz hu hv
theorem FgBRet.fin {w w' : World} {F : FG} {nx : Int} {dx : Int} {px : Option Addr} {ny : Int} {dy : Int} {py : Option Addr} {nz : Int} {dz : Int} {pz : Option Addr} {nu : Int} {du : Int} {pu : Option Addr} {nv : Int} {dv : Int} {pv : Option Addr} {sx : Rat} {kx : Nat} {sy : Rat} {ky : Nat} {sz : Rat} {kz : Nat} {su : Rat} {ku : Nat} {sv : Rat} {kv : Nat} {k : Nat} [b : Kp w w'] [hx : CF w' (.agg #[.int .i64 nx, .int .i64 dx, .pointer px]) sx kx] [hy : CF w' (.agg #[.int .i64 ny, .int .i64 dy, .pointer py]) sy ky] [hz : CF w' (.agg #[.int .i64 nz, .int .i64 dz, .pointer pz]) sz kz] [hu : CF w' (.agg #[.int .i64 nu, .int .i64 du, .pointer pu]) su ku] [hv : CF w' (.agg #[.int .i64 nv, .int .i64 dv, .pointer pv]) sv kv] (ex : sx = ((F.a : Int) : Rat)) (mx : kx ≤ k) (ey : sy = ((F.b : Int) : Rat)) (my : ky ≤ k) (ez : sz = ((F.c : Int) : Rat)) (mz : kz ≤ k) (eu : su = F.lo) (mu : ku ≤ k) (ev : sv = F.hi) (mv : kv ≤ k) : FgBRet w F k (.returned (.tuple #[.agg #[.int .i64 nx, .int .i64 dx, .pointer px, .int .i64 ny, .int .i64 dy, .pointer py, .int .i64 nz, .int .i64 dz, .pointer pz, .int .i64 nu, .int .i64 du, .pointer pu, .int .i64 nv, .int .i64 dv, .pointer pv, .bool false, .bool false], .bool true])) w' :=
  ⟨_, _, _, _, _, _, _, _, _, _, _, _, _, _, _, rfl, hx.cast ex mx, hy.cast ey my, hz.cast ez mz, hu.cast eu mu, hv.cast ev mv, b.out⟩
/-- A fragment is returned. -/
def FhVRet (w : World) (F : FG) (k : Nat) (e : Ending) (w' : World) : Prop := ∃ gx ax lx cx gy ay ly cy gz az lz cz gu au lu cu aau llu ccu gv av lv cv aav llv ccv, e = .returned (.agg #[.bool gx, .slice ax lx cx, .bool gy, .slice ay ly cy, .bool gz, .slice az lz cz, .bool gu, .slice au lu cu, .slice aau llu ccu, .bool gv, .slice av lv cv, .slice aav llv ccv, .bool false, .bool false]) ∧ CZ w' (.agg #[.bool gx, .slice ax lx cx]) (F.a) k ∧ CZ w' (.agg #[.bool gy, .slice ay ly cy]) (F.b) k ∧ CZ w' (.agg #[.bool gz, .slice az lz cz]) (F.c) k ∧ CA w' (.agg #[.bool gu, .slice au lu cu, .slice aau llu ccu]) (F.lo) k ∧ CA w' (.agg #[.bool gv, .slice av lv cv, .slice aav llv ccv]) (F.hi) k ∧ Below w.heap.size w w'
theorem FhVRet.fin {w w' : World} {F : FG} {gx : Bool} {ax : Option Addr} {lx : Nat} {cx : Nat} {gy : Bool} {ay : Option Addr} {ly : Nat} {cy : Nat} {gz : Bool} {az : Option Addr} {lz : Nat} {cz : Nat} {gu : Bool} {au : Option Addr} {lu : Nat} {cu : Nat} {aau : Option Addr} {llu : Nat} {ccu : Nat} {gv : Bool} {av : Option Addr} {lv : Nat} {cv : Nat} {aav : Option Addr} {llv : Nat} {ccv : Nat} {sx : Int} {kx : Nat} {sy : Int} {ky : Nat} {sz : Int} {kz : Nat} {su : Rat} {ku : Nat} {sv : Rat} {kv : Nat} {k : Nat} [b : Kp w w'] [hx : CZ w' (.agg #[.bool gx, .slice ax lx cx]) sx kx] [hy : CZ w' (.agg #[.bool gy, .slice ay ly cy]) sy ky] [hz : CZ w' (.agg #[.bool gz, .slice az lz cz]) sz kz] [hu : CA w' (.agg #[.bool gu, .slice au lu cu, .slice aau llu ccu]) su ku] [hv : CA w' (.agg #[.bool gv, .slice av lv cv, .slice aav llv ccv]) sv kv] (ex : sx = F.a) (mx : kx ≤ k) (ey : sy = F.b) (my : ky ≤ k) (ez : sz = F.c) (mz : kz ≤ k) (eu : su = F.lo) (mu : ku ≤ k) (ev : sv = F.hi) (mv : kv ≤ k) : FhVRet w F k (.returned (.agg #[.bool gx, .slice ax lx cx, .bool gy, .slice ay ly cy, .bool gz, .slice az lz cz, .bool gu, .slice au lu cu, .slice aau llu ccu, .bool gv, .slice av lv cv, .slice aav llv ccv, .bool false, .bool false])) w' :=
  ⟨_, _, _, _, _, _, _, _, _, _, _, _, _, _, _, _, _, _, _, _, _, _, _, _, _, _, rfl, hx.cast ex mx, hy.cast ey my, hz.cast ez mz, hu.cast eu mu, hv.cast ev mv, b.out⟩
theorem segG_r {p q : Rat × Rat} (h : p ≠ q) : lnK (thA p.2 q.2) (thA p.2 q.2) (q.1 - p.1) (thC p.1 p.2 q.1 q.2) = (((segG p q).a : Int) : Rat) ∧ lnK (q.1 - p.1) (thA p.2 q.2) (q.1 - p.1) (thC p.1 p.2 q.1 q.2) = (((segG p q).b : Int) : Rat) ∧ lnK (thC p.1 p.2 q.1 q.2) (thA p.2 q.2) (q.1 - p.1) (thC p.1 p.2 q.1 q.2) = (((segG p q).c : Int) : Rat) := by
  obtain ⟨A, B, C, e1, e2, e3, _⟩ := lnK_valid (c := thC p.1 p.2 q.1 q.2) (th_ne2 h)
  have d1 : (segG p q).a = A := by show (lnK _ _ _ _).num = A; rw [← e1]; rfl
  have d2 : (segG p q).b = B := by show (lnK _ _ _ _).num = B; rw [← e2]; rfl
  have d3 : (segG p q).c = C := by show (lnK _ _ _ _).num = C; rw [← e3]; rfl
  rw [d1, d2, d3]
  exact ⟨e1.symm, e2.symm, e3.symm⟩
theorem gSegC {w : World} {n1x d1x n1y d1y n2x d2x n2y d2y : Int} {p1x p1y p2x p2y : Option Addr} {x1 y1 x2 y2 : Rat} {k1x k1y k2x k2y : Nat} [h1x : CF w (.agg #[.int .i64 n1x, .int .i64 d1x, .pointer p1x]) x1 k1x] [h1y : CF w (.agg #[.int .i64 n1y, .int .i64 d1y, .pointer p1y]) y1 k1y] [h2x : CF w (.agg #[.int .i64 n2x, .int .i64 d2x, .pointer p2x]) x2 k2x] [h2y : CF w (.agg #[.int .i64 n2y, .int .i64 d2y, .pointer p2y]) y2 k2y] (b : k1x ≤ 600 ∧ k1y ≤ 600 ∧ k2x ≤ 600 ∧ k2y ≤ 600) {k : Nat} (hk : k1x ≤ k ∧ k1y ≤ k ∧ k2x ≤ k ∧ k2y ≤ k) (hk2 : k ≤ 10) (hne : Hid ((x1, y1) ≠ (x2, y2))) :
    Calls Tryz.prog 151 #[.agg #[.int .i64 n1x, .int .i64 d1x, .pointer p1x, .int .i64 n1y, .int .i64 d1y, .pointer p1y], .agg #[.int .i64 n2x, .int .i64 d2x, .pointer p2x, .int .i64 n2y, .int .i64 d2y, .pointer p2y]] w (FgBRet w (segG (x1, y1) (x2, y2)) (482 * k + 1230)) := by
  have h0 : Hid (¬ (thA y1 y2 = 0 ∧ x2 - x1 = 0)) := Lib.hid (th_ne2 hne.out)
  obtain ⟨e1, e2, e3⟩ := segG_r hne.out
  have E1 := Lib.hid e1
  have E2 := Lib.hid e2
  have E3 := Lib.hid e3
  clear e1 e2 e3
  go_enter Tryz.func151, Tryz.ntmps151
  go_wp2_with (first
    | (go_at_call 207; (with_reducible refine Calls.cLFB (gThroughOk (by omega) h0) ?_); intro w1 _ nx dx px ny dy py nz dz pz ix iy iz; rw [E1.out] at ix; rw [E2.out] at iy; rw [E3.out] at iz))
  refine rgn [w.heap.size + 1 + 1] [] fun hHeld => ?_
  refine tk 0 hHeld ?_
  refine tk 1 hHeld ?_
  refine tk 2 hHeld ?_
  refine tk 4 hHeld ?_
  refine tk 5 hHeld ?_
  refine st 3 fun K hK => ?_
  go_simp
  (with_reducible refine Calls.cF (lnParamC (by omega)) ?_); intros
  refine hd hK ?_
  clear hHeld hK K
  intro hHeld
  refine st 6 fun K hK => ?_
  go_simp
  (with_reducible refine Calls.cF (lnParamC (by omega)) ?_); intros
  refine hd hK ?_
  clear hHeld hK K
  intro hHeld
  refine tk 7 hHeld ?_
  refine tk 8 hHeld ?_
  refine st 9 fun K hK => ?_
  go_simp
  refine hd hK ?_
  clear hHeld hK K
  intro hHeld
  refine tk 10 hHeld ?_
  refine dn ?_
  clear hHeld
  go_wp2
  refine ret_b9 rfl Tryz.underlying182 rfl (by kernel_rfl) rfl rfl rfl ?_
  exact FgBRet.fin rfl (by omega) rfl (by omega) rfl (by omega) rfl (by omega) rfl (by omega)
end Go.Proofs.YtdlnoeegboapkaaGreatDoor

/- A range over the edges whose body writes boxes that were made ahead of it. printed by a small program (mkrg3e.py). -/
namespace Go.Proofs.YtdlnoeegboapkaaGreatDoor
open Go.RowKit
set_option maxRecDepth 100000
set_option maxHeartbeats 40000000
set_option synthInstance.maxSize 100000
set_option synthInstance.maxHeartbeats 1000000
set_option linter.unusedVariables false
attribute [local go_sem] Oper.semAt_some

/-- The ring's box and row are kept. -/
structure K2 (Br g c : Nat) (V : List FV) (wz : World) (A B : World) : Prop where
  size : A.heap.size ≤ B.heap.size
  bx : Bx A Br 131 [.slice (some ⟨g, 0, none⟩) V.length c] → Bx B Br 131 [.slice (some ⟨g, 0, none⟩) V.length c]
  at' : At A g (rowF V) wz → At B g (rowF V) wz
theorem K2.refl {Br g c : Nat} {V : List FV} {wz A : World} : K2 Br g c V wz A A := ⟨Nat.le_refl _, id, id⟩
theorem K2.trans {Br g c : Nat} {V : List FV} {wz A B C : World} (h : K2 Br g c V wz A B) (k : K2 Br g c V wz B C) : K2 Br g c V wz A C :=
  ⟨Nat.le_trans h.size k.size, fun x => k.bx (h.bx x), fun x => k.at' (h.at' x)⟩
theorem K2.of {Br g c : Nat} {V : List FV} {wz A B : World} (h : Kp A B) : K2 Br g c V wz A B := by
  have k : Kp1 A B := ⟨h.out⟩
  exact ⟨h.out.size, fun x => inferInstance, fun x => inferInstance⟩
theorem K2.put {Br g c : Nat} {V : List FV} {wz w : World} (W : World) (l : Nat) (o o' : Obj) (hl : w.heap.size ≤ l) (h : W.heap[l]? = some o) (h2 : o.isCells = false) (_ : o.isWalk = false) : K2 Br g c V wz W (W.putObj l o') := by
  refine ⟨by simp [World.putObj], fun x => ⟨?_⟩, fun x => ⟨fun j u hu => ?_, x.lt, by simpa [World.putObj] using x.ltW⟩⟩
  · have hne : l ≠ Br := fun e => by subst e; rw [x.out] at h; cases h; cases h2
    simp only [World.putObj, Array.getElem?_setIfInBounds]
    rw [if_neg hne]; exact x.out
  · have h3 := x.out j u hu
    have hne : l ≠ g := fun e => by
      subst e
      simp only [World.cell?, h] at h3
      cases o <;> first | exact Bool.noConfusion h2 | (simp at h3; done)
    simp only [World.cell?, World.putObj, Array.getElem?_setIfInBounds] at h3 ⊢
    rw [if_neg hne]; exact h3
theorem edges2_in (n : Nat) (hn : 1 ≤ n) (l Br g c : Nat) (V : List FV) (hV : V.length ≤ 1000000) (wz : World) (J Jx : List (Fin V.length) → World → Prop) (W : World) (hJ : AbidesFrom W.heap.size J)
    (hY : ∀ pre x W1, J pre W1 → pre.length < V.length → YieldAt Fence.wide (n - 1) Tryz.prog l (encE V x) W1 fun e W' =>
      (e = .returned (.bool true) ∧ J (pre ++ [x]) W' ∧ K2 Br g c V wz W1 W') ∨ (e = .returned (.bool false) ∧ Jx (pre ++ [x]) W'))
    [hB : Bx W Br 131 [.slice (some ⟨g, 0, none⟩) V.length c]] [hA : At W g (rowF V) wz] (h0 : J [] W) :
    CallsIn Fence.wide n Tryz.prog 202 #[.func (.yield l) #[] #[], .pointer (some ⟨Br, 0, none⟩)] W fun e W' => (∃ v, e = .returned v) ∧
      ((∃ ys, ys = List.finRange V.length ∧ J ys W') ∨ (∃ pre, pre <+: List.finRange V.length ∧ Jx pre W')) := by
  have hmx : Tryz.prog.follows .mixedOrders = true := by kernel_rfl
  refine callsIn_of_wp Tryz.func202 rfl trivial ?_ rfl
  simp only [Tryz.ntmps202, List.size_toArray, List.length_cons, List.length_nil, Nat.reduceAdd, Nat.reduceSub, Array.replicate_succ, Array.replicate_zero, List.push_toArray, List.append_toArray, List.nil_append, List.cons_append]
  gi_wp2
  gi_loopw [7] (fun i wr => ∃ q : Nat, q ≤ V.length ∧ i = .int .i64 (q : Int) ∧ J ((List.finRange V.length).take q) wr ∧ K2 Br g c V wz W wr) (fun i _ => V.length - (intOf i).toNat)
  case atStart => exact ⟨0, Nat.zero_le _, rfl, by simpa using h0, K2.refl⟩
  case round =>
    obtain ⟨q, hq, rfl, hJs, hnx⟩ := hrel
    by_cases hlt : q < V.length
    · have hlt' : (q : Int) < V.length := by omega
      have i1 := hnx.bx hB
      have i2 := hnx.at' hA
      have ew : IntKind.i64.wrap ((q : Int) + 1) = (q : Int) + 1 := wr_in (by omega) (by omega)
      obtain ⟨m, hm0⟩ : ∃ m, (q + 1) % V.length = m := ⟨_, rfl⟩
      have hm : m < V.length := by rw [← hm0]; exact Nat.mod_lt _ (by omega)
      have hm' : (m : Int) < V.length := by omega
      have er : ((q : Int) + 1).tmod (V.length : Int) = (m : Int) := by
        rw [← hm0, show (q : Int) + 1 = ((q + 1 : Nat) : Int) by omega]; exact (Int.ofNat_tmod _ _).symm
      have HM := Lib.hid hm0
      clear hm0
      have hz : ¬ ((V.length : Int) = 0) := by omega
      have hz2 : ¬ (V.length = 0) := by omega
      have hz3 : V ≠ [] := fun e => by rw [e] at hlt; simp at hlt
      gi_wp2
      refine nmreg (fun W4 => Kp wr W4 ∧ Bx W4 wr.heap.size 152 (fv V q).l ∧ Bx W4 Br 131 [.slice (some ⟨g, 0, none⟩) V.length c] ∧ At W4 g (rowF V) wz) ⟨inferInstance, Bx.re rfl, inferInstance, inferInstance⟩ ?_
      intro W4 ⟨k1, k2, k3, k4⟩
      have hJ4 := hJ _ _ W4.drew none hJs (below_gb (inferInstance : Kp wr W4.drew).out) (fun r e => by cases e)
      obtain ⟨fn, tmps, assign, body, hy, hR⟩ := hY _ ⟨q, hlt⟩ _ hJ4 (by simp; omega)
      have hR' := hR.mono (R' := fun e W' => ∃ b : Bool, e = .returned (.bool b) ∧ (b = true → J ((List.finRange V.length).take (q + 1)) W' ∧ K2 Br g c V wz W4.drew W') ∧ (b = false → Jx ((List.finRange V.length).take (q + 1)) W')) (by
        rintro e W' (⟨h1, h2, h3⟩ | ⟨h1, h2⟩)
        · exact ⟨true, h1, fun _ => ⟨(by rw [upto_succ hlt]; exact h2), h3⟩, fun h => (by cases h)⟩
        · exact ⟨false, h1, fun h => (by cases h), fun _ => (by rw [upto_succ hlt]; exact h2)⟩)
      clear hR
      dsimp only [encE, edL] at hy
      rw [HM.out] at hy
      simp only [FV.l] at k2
      clear hY hJ
      gi_region_with_o (refine hR'.mono ?_; rintro e W5 ⟨b, rfl, hb1, hb2⟩)
      all_goals
        cases b with
        | true =>
          obtain ⟨hJ5, hk5⟩ := hb1 rfl
          have hk6 : K2 Br g c V wz wr W5 := (K2.of (inferInstance : Kp wr W4.drew)).trans hk5
          gi_wp2
          go_roundw
          case rel => exact ⟨q + 1, by omega, by go_num, hJ5, hnx.trans hk6⟩
          case measure => simp [intOf]; omega
        | false =>
          have hx5 := hb2 rfl
          gi_wp2
          refine bodyPost_ret (results_none rfl _ _ _) rfl ?_
          exact ⟨⟨_, rfl⟩, .inr ⟨_, List.take_prefix _ _, hx5⟩⟩
    · obtain rfl : q = V.length := by omega
      gi_wp2
      go_end0
      exact ⟨⟨_, rfl⟩, .inl ⟨_, rfl, by rw [List.take_of_length_le (by simp)] at hJs; exact hJs⟩⟩
theorem edges_stops2 (n : Nat) (hn : 1 ≤ n) (Br g c : Nat) (V : List FV) (hV : V.length ≤ 1000000) (w wz : World) [hB : Bx w Br 131 [.slice (some ⟨g, 0, none⟩) V.length c]] [hA : At w g (rowF V) wz] :
    SeqStopsK Fence.wide n Tryz.prog 202 #[.pointer (some ⟨Br, 0, none⟩)] (encE V) (K2 Br g c V wz) (fun ys => ys = List.finRange V.length) (fun pre => pre <+: List.finRange V.length) V.length w := fun l J Jx W hW hJ _ hY h0 => by
  have kW : Kp1 w W := ⟨hW⟩
  exact edges2_in n hn l Br g c V hV wz J Jx W hJ hY h0
theorem range_edges2 {n : Nat} {Q : Exit → Act → World → Prop} {w : World} (wz : World) {go_ : Operand} {ps : Array Tmp} {assign body : Code} {Ts : Array Value} {Br g c : Nat} {V : List FV} (hn : 3 ≤ n) (hg : Act.eval { tmps := Ts, defers := [] } go_ = .func (.func 202) #[] #[.pointer (some ⟨Br, 0, none⟩)]) (hV : V.length ≤ 1000000)
    [hB : Bx w Br 131 [.slice (some ⟨g, 0, none⟩) V.length c]] [hA : At w g (rowF V) wz] (hps : ps.size = 2) (upd : Array Value → Fin V.length → Nat → Array Value)
    (I : List (Fin V.length) → World → Prop) (Ix : Code → List (Fin V.length) → World → Prop) (hI : OwnFrom w.heap.size I) (hIx : ∀ c, OwnFrom w.heap.size (Ix c)) (h0 : I [] w)
    (hassign : ∀ (l : Nat) (pre : List (Fin V.length)) (x : Fin V.length) (W : World) (K : Act → World → Prop), I pre W → (∀ W' b, W.heap.size = b → Kp W W' → Bx W' b 238 (edL V x.val) → K { tmps := upd Ts x b, defers := [] } W') →
      assign.wpIn (Fence.wide.inRound l) (n - 1 - 1) Tryz.prog (Exit.then K (fun _ _ _ => False)) { tmps := (ps.zip (encE V x)).foldl (fun t (p, v) => t.setIfInBounds p v) Ts, defers := [] } W)
    (hIb : ∀ pre W W', I pre W → Kp W W' → I pre W') (hIs : ∀ pre W, I pre W → w.heap.size ≤ W.heap.size)
    (hbody : ∀ (l : Nat) (pre : List (Fin V.length)) (x : Fin V.length) (b : Nat) (W : World), I pre W → w.heap.size ≤ b → Bx W b 238 (edL V x.val) → pre.length < V.length → body.wpIn (Fence.wide.inRound l) (n - 1 - 1) Tryz.prog (ownPostG w.heap.size (K2 Br g c V wz) I Ix (pre ++ [x]) W) { tmps := upd Ts x b, defers := [] } W)
    (hdone : ∀ (D : Nat) (W : World), w.heap.size ≤ D → I (List.finRange V.length) W → W.heap[D]? = some (.deferred (some [])) → Q .normal { tmps := Ts, defers := [{ target := .collected D, args := #[] }] } W)
    (hstop : ∀ (D : Nat) (c : Code) (pre : List (Fin V.length)) (W : World), w.heap.size ≤ D → pre <+: List.finRange V.length → Ix c pre W → W.heap[D]? = some (.deferred (some [])) → c.wpIn Fence.wide n Tryz.prog Q { tmps := Ts, defers := [{ target := .collected D, args := #[] }] } W) :
    (Code.rangeFunc go_ ps assign body).wp Tryz.prog Q { tmps := Ts, defers := [] } w := by
  refine (wpIn_wide (n := n)).1 ?_
  refine wpIn_rangeFunc_ownH rfl (by omega) hg trivial (enters_of Tryz.func202 (by kernel_rfl) rfl) (edges_stops2 (n - 1) (by omega) Br g c V hV w wz) K2.trans (fun W l o o' => K2.put W l o o') (Below.refl _ _) (fun _ => by rw [hps]; rfl)
    I Ix hI hIx h0 (fun x a' W => ∃ b, w.heap.size ≤ b ∧ Bx W b 238 (edL V x.val) ∧ a' = { tmps := upd Ts x b, defers := [] }) ?_ ?_ ?_ ?_ ?_
  · intro x a' s A B row ⟨b, h1, h2, h3⟩ hgr hr
    refine ⟨b, h1, ⟨?_⟩, h3⟩
    rw [hgr.block b h2.lt (fun e => ?_)]
    · exact h2.out
    · obtain ⟨_, o, ho, hc⟩ := hr b e.symm
      rw [h2.out] at ho
      cases ho
      cases hc
  · intro l pre x W K hi hK
    refine hassign l pre x W K hi (fun W' b hb hk hx => ?_)
    have hs := hIs _ _ hi
    exact hK _ _ ((KeepsOthers.of_grownBy (row := none) (below_gb hk.out) (fun j o e => by cases e)).from _) (K2.of hk) (hIb _ _ _ hi hk) ⟨b, by omega, hx, rfl⟩
  · rintro l pre x a' W _ _ hi ⟨b, h1, h2, rfl⟩ hlt
    exact hbody l pre x b W hi h1 h2 hlt
  · rintro D xs W hD rfl hi hK
    exact hdone D W hD hi hK
  · exact hstop
end Go.Proofs.YtdlnoeegboapkaaGreatDoor

/- What keeps where only blocks without cells turn; append inside a fenced walk; the edges of a ring as segments. printed by a small program (mkrg12.py). -/
namespace Go.Proofs.YtdlnoeegboapkaaGreatDoor
open Go.RowKit
set_option maxRecDepth 100000
set_option maxHeartbeats 40000000
set_option synthInstance.maxSize 100000
set_option synthInstance.maxHeartbeats 1000000
set_option linter.unusedVariables false
attribute [local go_sem] Oper.semAt_some

/-- From W to W2 the heap grew, and of what was there only blocks without cells turned. -/
class Nc1 (W : outParam World) (W2 : World) : Prop where
  size : W.heap.size ≤ W2.heap.size
  cells : ∀ {b : Nat} {l : Array Value} {t : TypeId} {z : Nat × Nat}, W.heap[b]? = some (.cells l t z) → W2.heap[b]? = some (.cells l t z)
section
variable {W W2 w0 w : World}
theorem Nc1.of {row : Option Nat} (h : W.grownBy W2 row) (hr : ∀ r, row = some r → ∃ o : Obj, W.heap[r]? = some o ∧ o.isCells = false) : Nc1 W W2 :=
  ⟨h.size, fun {b l t z} hb => by
    rw [h.block b (Array.getElem?_eq_some_iff.1 hb).1 (fun e => ?_)]
    · exact hb
    · obtain ⟨o, ho, hc⟩ := hr b e.symm
      rw [hb] at ho
      cases ho
      cases hc⟩
theorem Nc1.cell (k : Nc1 W W2) {a : Addr} {v : Value} (h : W.cell? a = some v) : W2.cell? a = some v := by
  unfold World.cell? at h ⊢
  match hb : W.heap[a.block]? with
  | none => rw [hb] at h; simp at h
  | some o =>
    rw [hb] at h
    cases o with
    | cells l t z => rw [k.cells hb]; exact h
    | _ => simp at h
theorem Rd.nc {v : Value} {l : List Nat} (h : Rd W v l) (k : Nc1 W W2) : Rd W2 v l := by
  obtain ⟨a, cap, rfl, h1, h2, h3, h4⟩ := h
  refine ⟨a, cap, rfl, h1, h2, h3, fun h0 => ?_⟩
  obtain ⟨b, off, rfl, hcell⟩ := h4 h0
  exact ⟨b, off, rfl, fun j hj => k.cell (hcell j hj)⟩
theorem Pres.nc (k : Nc1 W W2) : Pres W W2 := ⟨fun h => ⟨h.1.nc k, h.2⟩, fun h => by obtain ⟨l, h1, h2⟩ := h; exact ⟨l, h1.nc k, h2⟩, fun {b l} y => k.cells y⟩
instance (priority := low) CF.nc {v : Value} {q : Rat} {k : Nat} [b : Nc1 W W2] [h : CF W v q k] : CF W2 v q k := ⟨h.out.map (Pres.nc b)⟩
instance (priority := low) Bx.nc {b : Nat} {t : TypeId} {l : List Value} [k : Nc1 W W2] [h : Bx W b t l] : Bx W2 b t l := ⟨k.cells h.out⟩
theorem Rn.nc {v : Value} {e : TypeId} {sz n base : Nat} {xs : List Value} (h : Rn W v e sz n xs base w0) (k : Nc1 W W2) : Rn W2 v e sz n xs base w0 :=
  h.keep k.size (fun g hg => by
    obtain ⟨t, l, h1, _⟩ := (h.nd g hg).out
    rw [h1]; exact k.cells h1)
theorem FsG.nc {V : List GV} {L : List FG} {k : Nat} (h : FsG W V L k) [b : Nc1 W W2] : FsG W2 V L k := ⟨h.len, fun i hi => by have := h.x i hi; infer_instance, fun i hi => by have := h.y i hi; infer_instance, fun i hi => by have := h.z i hi; infer_instance, fun i hi => by have := h.u i hi; infer_instance, fun i hi => by have := h.v i hi; infer_instance⟩
instance FsG.dp {V : List GV} {L : List FG} {k : Nat} {D : Nat} [b : Dp1 W W2 D] [h : FsG W V L k] : FsG W2 V L k := ⟨h.len, fun i hi => by have := h.x i hi; infer_instance, fun i hi => by have := h.y i hi; infer_instance, fun i hi => by have := h.z i hi; infer_instance, fun i hi => by have := h.u i hi; infer_instance, fun i hi => by have := h.v i hi; infer_instance⟩
end
/-- Blocks without cells are kept. -/
class Keo (w W : World) : Prop where out : KeepsOthers w W
section
variable {w W W2 : World}
instance Keo.rf : Keo w w := ⟨KeepsOthers.refl w⟩
instance Keo.al {o : Obj} [h : Keo w W] : Keo w (W.alloc o) := ⟨h.out.trans (KeepsOthers.alloc W o)⟩
instance Keo.st {a : Addr} {v : Value} [h : Keo w W] : Keo w (W.setCell a v) := ⟨h.out.trans (KeepsOthers.setCell W a v)⟩
instance (priority := low) Keo.kp [k : Kp1 W W2] [h : Keo w W] : Keo w W2 := ⟨h.out.trans (KeepsOthers.of_grownBy (row := none) (below_gb k.out) (fun j o e => by cases e))⟩
instance (priority := low) Keo.apn [k : Apn W W2] [h : Keo w W] : Keo w W2 := ⟨h.out.trans (by
  obtain ⟨row, h1, h2⟩ := k.out
  refine KeepsOthers.of_grownBy h1 (fun j o e ho => ?_)
  obtain ⟨t, l, h3, _⟩ := (h2 j e).out
  rw [h3] at ho
  cases ho
  rfl)⟩
end
theorem app_rnI {F : Fence} {nn : Nat} {W w0 : World} {ops : Array Oper} {rest : List Oper} {o : Oper} {a : Act} {Q : Exit → Act → World → Prop} (hg : o.guard = none) (s x : Operand) (t : TypeId)
    (hop : o.op = .call { callee := .builtin .append, args := #[s, x], argTypes := #[t, t] }) {e : TypeId} (ht : Tryz.prog.underlying t = some (.slice e)) {z : Value} {sz bt : Nat}
    (hi : (Tryz.prog.info? e).map (fun i => (i.zero, i.size, i.bytes)) = some (some z, sz, bt)) (hzs : z.cells.size = sz) (hsz : 0 < sz) (hbt : bt ≤ 1000) (hz0 : ∀ u ∈ z.cells.toList, isDigit32 u = false) (he : BoxT e) {v : Value} {n : Nat} {xs : List Value} {base : Nat} (hs : a.eval s = v) [hr : Rn W v e sz n xs base w0]
    (hnx : ∀ u ∈ xs, isDigit32 u = false) {ad : Addr} {m c : Nat} {l : List Value} (hx : a.eval x = .slice (some ad) m c) (hb : ∀ j u, l[j]? = some u → W.cell? (ad.add j) = some u) (hl : l.length = m * sz) (h1 : ∀ u ∈ l, u.oneCell' = true) (hnl : ∀ u ∈ l, isDigit32 u = false) (hm : 0 < m) (hn : n + m ≤ 1000000)
    (hK : ∀ g c W' [Ap1 W W' base w0] [Apn W W'] [Rn W' (.slice (some ⟨g, 0, none⟩) (n + m) c) e sz (n + m) (xs ++ l) base W'], wpListIn F nn Tryz.prog ops Q rest (a.put o.dst (.slice (some ⟨g, 0, none⟩) (n + m) c)) W') :
    wpListIn F nn Tryz.prog ops Q (o :: rest) a W := by
  obtain ⟨i0, hi0⟩ : ∃ i0, Tryz.prog.info? e = some i0 := by
    cases h : Tryz.prog.info? e with
    | none => rw [h] at hi; cases hi
    | some i0 => exact ⟨i0, rfl⟩
  rw [hi0] at hi
  simp only [Option.map_some, Option.some.injEq, Prod.mk.injEq] at hi
  obtain ⟨hz, hsz', hbt'⟩ := hi
  have hby : (n + m) * bt ≤ 140737488355328 := by
    have : (n + m) * bt ≤ 1000000 * 1000 := Nat.mul_le_mul hn hbt
    omega
  have hmx : n + m ≤ maxLen := by unfold maxLen; omega
  refine wpListIn_plain hg fun K hKK => ?_
  obtain ⟨v', w', hrun, h2, h3, h4⟩ := run_append_own (P := Tryz.prog) W base t o.type e i0 z sz bt ht hi0 hz hsz' hbt' hzs hsz v n xs hr.rw'.out ad m c l hl hb h1 hmx hby hr.rw'.hb
  have hsoft := append_nd (P := Tryz.prog) W t o.type e i0 z ht hi0 hz he (base := base) (by rw [hsz']; exact hr.rw'.out) hr.nd hnx ad m c l (by rw [hsz']; exact hl) hb h1 hnl hz0 hmx (by rw [hbt']; exact hby) hrun
  have hne : v' ≠ .slice none 0 0 := fun e => by have := (h4.1 e).2; omega
  rcases h2.2 with ⟨e', _⟩ | ⟨g, cap, cur, e', _⟩
  · exact absurd e' hne
  · subst e'
    unfold Oper.wpIn
    refine ⟨by simp [Oper.about, hop, resolve, Target.leads, Sem.run_pure], ?_⟩
    rw [Oper.semAt_plain F _ _ (by rw [hop]; intro c hc'; cases hc')]
    simp [execOp, hop, resolve, invoke, builtin, hs, hx, hrun, Result.andThen]
    have i1 : Ap1 W w' base w0 := ⟨⟨_, h3, fun k hk => ⟨(hr.rw'.out.lt k hk).1, hr.rw'.lt k hk⟩⟩⟩
    have i2 : Apn W w' := ⟨⟨_, h3, hr.nd⟩⟩
    have i3 : Rn w' (.slice (some ⟨g, 0, none⟩) (n + m) cap) e sz (n + m) (xs ++ l) base w' := ⟨Rw.mk1 h2 (Nat.le_trans hr.rw'.hb h3.size), hsoft⟩
    exact hKK _ _ (@hK g cap w' i1 i2 i3)
theorem app_rnI1 {F : Fence} {nn : Nat} {W w0 : World} {ops : Array Oper} {rest : List Oper} {o : Oper} {a : Act} {Q : Exit → Act → World → Prop} (hg : o.guard = none) (s x : Operand) (t : TypeId)
    (hop : o.op = .call { callee := .builtin .append, args := #[s, x], argTypes := #[t, t] }) {e : TypeId} (ht : Tryz.prog.underlying t = some (.slice e)) {z : Value} {sz bt : Nat}
    (hi : (Tryz.prog.info? e).map (fun i => (i.zero, i.size, i.bytes)) = some (some z, sz, bt)) (hzs : z.cells.size = sz) (hsz : 0 < sz) (hbt : bt ≤ 1000) (hz0 : ∀ u ∈ z.cells.toList, isDigit32 u = false) (he : BoxT e) {v : Value} {n : Nat} {xs : List Value} {base : Nat} (hs : a.eval s = v) [hr : Rn W v e sz n xs base w0]
    (hnx : ∀ u ∈ xs, isDigit32 u = false) {q : Nat} {ety : TypeId} {l : List Value} (hx : a.eval x = .slice (some ⟨q, 0, none⟩) 1 1) [hb : Bx W q ety l] (hl : l.length = sz) (h1 : ∀ u ∈ l, u.oneCell' = true) (hnl : ∀ u ∈ l, isDigit32 u = false) (hn : n + 1 ≤ 1000000)
    (hK : ∀ g c W' [Ap1 W W' base w0] [Apn W W'] [Rn W' (.slice (some ⟨g, 0, none⟩) (n + 1) c) e sz (n + 1) (xs ++ l) base W'], wpListIn F nn Tryz.prog ops Q rest (a.put o.dst (.slice (some ⟨g, 0, none⟩) (n + 1) c)) W') :
    wpListIn F nn Tryz.prog ops Q (o :: rest) a W :=
  app_rnI hg s x t hop ht hi hzs hsz hbt hz0 he hs hnx hx (fun j u hu => by
    have hadd : (⟨q, 0, none⟩ : Addr).add j = ⟨q, j, none⟩ := by unfold Addr.add; split <;> simp_all
    rw [hadd, cell_bx]; exact hu) (by omega) h1 hnl (by omega) hn hK
/-- The edges. -/
def edgesL (L : List (Rat × Rat)) : List FG := (List.range L.length).map (edgeF L)
theorem fin_map {A : Type} (n : Nat) (f : Nat → A) : (List.finRange n).map (fun i => f i.val) = (List.range n).map f := by
  apply List.ext_getElem <;> simp
theorem FsG.cast2 {W : World} {V : List GV} {L : List FG} {F F2 : FG} {k : Nat} (h : FsG W V (L ++ [⟨F.a, F.b, F.c, F.lo, F.hi⟩]) k) (e : F2 = F) : FsG W V (L ++ [F2]) k := by subst e; exact h
instance : BoxT 143 := by constructor <;> decide
theorem frsC {w w0 : World} {a : Option Addr} {n c : Nat} {V : List FV} {L : List (Rat × Rat)} {k : Nat} [hs : Sl w (.slice a n c) V.length (rowF V) w0] [hp : PsF w V L k] (hk : k ≤ 10) (hV : V.length ≤ 1000) (h0 : 0 < V.length) (hE : ∀ i, i < L.length → pg L i ≠ pg L ((i + 1) % L.length)) :
    Calls Tryz.prog 90 #[.slice a n c] w (FsGRet w (edgesL L) (482 * k + 1230)) := by
  obtain rfl := hs.len
  have hlen := Lib.hid hp.len
  have HE := Lib.hid hE
  clear hE
  obtain ⟨g, rfl, hA0⟩ := hs.form h0
  have hA : At w g (rowF V) w := ⟨hA0.out, hA0.ltW, hA0.ltW⟩
  clear hA0 hs
  refine calls_marks Tryz.func90 rfl ?_
  simp only [Tryz.ntmps90, List.size_toArray, List.length_cons, List.length_nil, Nat.reduceAdd, Nat.reduceSub, Array.replicate_succ, Array.replicate_zero, List.push_toArray, List.append_toArray, List.nil_append, List.cons_append]
  go_wp2_with (first
    | (go_at_call 145; (with_reducible refine Calls.cEdges edgesC ?_); intro w1 _ br _))
  have hsz : w.heap.size ≤ w1.heap.size := (inferInstance : Kp w w1).out.size
  have ne1 : NeN w.heap.size br := ⟨fun e => by
    have h1 := (inferInstance : Bx w1 br 131 [.slice (some ⟨g, 0, none⟩) V.length c]).out
    have h2 := (inferInstance : Bx w1 w.heap.size 143 [.slice none 0 0]).out
    rw [← e, h2] at h1
    simp at h1⟩
  have lt1 : LtN br w1.heap.size := inferInstance
  have lt2 : LtN w.heap.size w1.heap.size := inferInstance
  have ge1 : Ge w w1.heap.size := ⟨hsz⟩
  refine range_edges2 w (n := 5) (by omega) rfl (by omega) (V := V) (Br := br) (g := g) (c := c) rfl (fun T x b => ((T.setIfInBounds 10 (.int .i64 (x.val : Int))).setIfInBounds 11 (.agg (edL V x.val).toArray)).setIfInBounds 5 (.pointer (some ⟨b, 0, none⟩)))
    (fun pre W => Below w.heap.size w W ∧ ∃ (U : List GV) (o : Value), Rn W o 182 17 U.length (rowG U) w1.heap.size W ∧ Hid (U.length = pre.length) ∧ FsG W U (pre.map fun i => edgeF L i.val) (482 * k + 1230) ∧ Bx W w.heap.size 143 [o]) (fun _ _ _ => False) (OwnFrom.and (ownFrom_below (Nat.le_refl _) hsz) ?own) (fun _ _ _ _ _ h _ _ => h.elim) ?start ?assign ?keep ?size ?body ?done ?stop
  case own =>
    rintro pre W W' row ⟨U, o, h1, h2, h3, h4⟩ hg hr
    have nc : Nc1 W W' := Nc1.of hg (fun r e => (hr r e).2)
    exact ⟨U, o, (h1.nc nc).here, h2, h3.nc, inferInstance⟩
  case start => exact ⟨(inferInstance : Kp w w1).out, [], .slice none 0 0, Rn.nil (Nat.le_refl _), Lib.hid rfl, FsG.nil, inferInstance⟩
  case keep =>
    rintro pre W W' ⟨h0, U, o, h1, h2, h3, h4⟩ hk
    have k1 : Kp1 W W' := ⟨hk.out⟩
    exact ⟨h0.trans (hk.out.mono h0.size), U, o, Rn.here inferInstance, h2, inferInstance, inferInstance⟩
  case size => exact fun pre W ⟨_, U, o, h1, _⟩ => h1.rw'.hb
  case assign =>
    intro l pre x W K hI hK
    simp only [encE, edL, List.zip_toArray, List.zip_cons_cons, List.zip_nil_right, List.foldl_toArray, List.foldl_cons, List.foldl_nil, List.setIfInBounds_toArray, List.set_cons_zero, List.set_cons_succ]
    simp only [edL, List.setIfInBounds_toArray, List.set_cons_zero, List.set_cons_succ] at hK
    gi_wp2
    refine hK _ _ rfl ?_ ?_
    · infer_instance
    · exact Bx.re rfl
  case body =>
    rintro l pre x b W ⟨hI, U, o, h1, h2, h3, h4⟩ hb hx hlt9
    have kw1 : Kp1 w W := ⟨hI⟩
    have nd1 : Ndl [o] := by obtain ⟨_, _, rfl⟩ := h1.slice; infer_instance
    obtain ⟨m, hm0⟩ : ∃ m, (x.val + 1) % V.length = m := ⟨_, rfl⟩
    have lq : LtN x.val V.length := ⟨x.isLt⟩
    have lm : LtN m V.length := ⟨by rw [← hm0]; exact Nat.mod_lt _ (by omega)⟩
    have hne : Hid (((pg L x.val).1, (pg L x.val).2) ≠ ((pg L m).1, (pg L m).2)) := Lib.hid (by
      have := HE.out x.val (by rw [← hlen.out]; exact x.isLt)
      rw [← hlen.out, hm0] at this
      exact this)
    dsimp only [edL] at hx ⊢
    rw [hm0] at hx ⊢
    simp only [List.setIfInBounds_toArray, List.set_cons_zero, List.set_cons_succ]
    gi_wp2_with (first
      | (refine ⟨trivial, ?_⟩; gi_at_call 151; (refine inR ?_); (with_reducible refine Calls.cFgB (gSegC (k := k) (by omega) (by omega) (by omega) hne) ?_); intro w2 _ nx dx px ny dy py nz dz pz nu du pu nv dv pv _ _ _ _ _)
      | (gi_at_builtin; go_loud (refine app_rnI1 (v := o) rfl (.tmp 20) (.tmp 22) 143 rfl Tryz.underlying143 info_gr rfl (by decide) (by decide) (by decide) inferInstance rfl (rowG_nd _) rfl (by rfl) ?h1 ?h2 (by have := h2.out; omega) ?_); (case h1 => exact GV.one ⟨_, _, _, _, _, _, _, _, _, _, _, _, _, _, _⟩); (case h2 => exact GV.nd ⟨_, _, _, _, _, _, _, _, _, _, _, _, _, _, _⟩); intro g2 c2 w3 i9 i10 i11))
    refine ⟨(inferInstance : Keo W _).out.from _, ⟨(inferInstance : Keo W _).out.size, fun y => inferInstance, fun y => inferInstance⟩, (inferInstance : Kp w _).out, U ++ [⟨nx, dx, px, ny, dy, py, nz, dz, pz, nu, du, pu, nv, dv, pv⟩], _, Rn.cast2 inferInstance (by simp) (by rw [rowG_snoc]; rfl), Lib.hid (by rw [List.length_append, List.length_append, h2.out]; rfl), ?_, Bx.re rfl⟩
    rw [List.map_append, List.map_cons, List.map_nil]
    exact FsG.cast2 (FsG.add (Nat.le_refl _) (Nat.le_refl _) (Nat.le_refl _) (Nat.le_refl _) (Nat.le_refl _)) (by rw [edgeF, ← hlen.out, hm0])
  case done =>
    rintro D W hD ⟨hI, U, o, h1, h2, h3, h4⟩ hK
    have kw1 : Kp1 w W := ⟨hI⟩
    have gd : Ge w D := ⟨Nat.le_trans hsz hD⟩
    obtain ⟨oa, oc, rfl⟩ := h1.slice
    have sl := Sl.ofRn (h := h1)
    go_wp2
    refine retM_mark (D := D) rfl hK ?_
    have kd : Dp1 W (W.putObj D (.deferred none)) D := ⟨rfl, _, hK⟩
    go_ret
    exact FsGRet.fin (V := U) (by rw [edgesL, hlen.out]; exact fin_map _ _) (Nat.le_refl _)
  case stop => exact fun _ _ _ _ _ _ h _ => h.elim
end Go.Proofs.YtdlnoeegboapkaaGreatDoor

/- The edges of a ring of small integers have small numbers: tight bounds of what is read. -/
namespace Go.Proofs.YtdlnoeegboapkaaGreatDoor
open Go.RowKit
set_option linter.unusedVariables false

theorem quo_small {n d : Int} (hd : d ≠ 0) : ((n : Rat) / (d : Rat)).num.natAbs ≤ n.natAbs ∧ ((n : Rat) / (d : Rat)).den ≤ d.natAbs := by
  have hd' : (d : Rat) ≠ 0 := fun e => hd (by exact_mod_cast e)
  have hi := Rat.mul_inv_cancel (d : Rat) hd'
  rw [Rat.div_def]
  generalize hq : (n : Rat) * (d : Rat)⁻¹ = q
  have h1 : q * (d : Rat) = n := by rw [← hq]; grind
  have h2 := int_mul_den q
  have h3 : q.num * d = n * (q.den : Int) := by
    have : ((q.num * d : Int) : Rat) = ((n * (q.den : Int) : Int) : Rat) := by
      rw [Rat.intCast_mul, Rat.intCast_mul, ← h2, ← h1]; grind
    exact_mod_cast this
  have hc := q.reduced
  have h4 : q.num.natAbs * d.natAbs = n.natAbs * q.den := by
    have := congrArg Int.natAbs h3
    rw [Int.natAbs_mul, Int.natAbs_mul, Int.natAbs_natCast] at this
    exact this
  constructor
  · by_cases h0 : n.natAbs = 0
    · rw [h0, Nat.zero_mul] at h4
      rcases Nat.mul_eq_zero.1 h4 with e | e <;> omega
    · exact Nat.le_of_dvd (by omega) (hc.dvd_of_dvd_mul_right ⟨d.natAbs, h4.symm⟩)
  · exact Nat.le_of_dvd (by omega) (hc.symm.dvd_of_dvd_mul_left ⟨n.natAbs, by rw [h4, Nat.mul_comm]⟩)
theorem CF.tight {W : World} {v : Value} {q : Rat} {k : Nat} (h : CF W v q k) (b1 : q.num.natAbs < 4294967296) (b2 : q.den < 4294967296) : CF W v q 2 := by
  refine ⟨?_⟩
  rcases h.out with ⟨e, h1, h2, h3, h4⟩ | ⟨b, g, a, l, c, aa, ll, cc, e, h1, ⟨h2, h3, h4⟩, ⟨h5, h6⟩, h7⟩
  · exact .inl ⟨e, h1, h2, h3, Nat.le_refl _⟩
  · exact .inr ⟨b, g, a, l, c, aa, ll, cc, e, h1, ⟨h2, h3, Nat.le_trans (nf_len_le (k := 1) (by omega)) (by decide)⟩, ⟨h5, Nat.le_trans (nf_len_le (k := 1) (by omega)) (by decide)⟩, h7⟩
theorem mulB {a b : Int} {m n : Nat} (ha : a.natAbs ≤ m) (hb : b.natAbs ≤ n) : (a * b).natAbs ≤ m * n := by
  rw [Int.natAbs_mul]; exact Nat.mul_le_mul ha hb
/-- An edge between points of small integers. -/
theorem seg_small {p q : Rat × Rat} {x y x' y' : Int} (hp : p = ((x : Rat), (y : Rat))) (hq : q = ((x' : Rat), (y' : Rat))) (hne : p ≠ q) (b1 : -8 ≤ x ∧ x ≤ 8) (b2 : -8 ≤ y ∧ y ≤ 8) (b3 : -8 ≤ x' ∧ x' ≤ 8) (b4 : -8 ≤ y' ∧ y' ≤ 8) :
    ((segG p q).a.natAbs ≤ 16 ∧ (segG p q).b.natAbs ≤ 16 ∧ (segG p q).c.natAbs ≤ 256) := by
  have hn := th_ne2 hne
  obtain ⟨A, B, C, e1, e2, e3, _⟩ := lnK_valid (c := thC p.1 p.2 q.1 q.2) hn
  have d1 : (segG p q).a = A := by show (lnK _ _ _ _).num = A; rw [← e1]; rfl
  have d2 : (segG p q).b = B := by show (lnK _ _ _ _).num = B; rw [← e2]; rfl
  have d3 : (segG p q).c = C := by show (lnK _ _ _ _).num = C; rw [← e3]; rfl
  rw [d1, d2, d3]
  have t1 : thA p.2 q.2 = ((y - y' : Int) : Rat) := by subst hp; subst hq; unfold thA; rw [Rat.intCast_sub]; grind
  have t2 : q.1 - p.1 = ((x' - x : Int) : Rat) := by subst hp; subst hq; rw [Rat.intCast_sub]
  have t3 : thC p.1 p.2 q.1 q.2 = ((x * (y' - y) - y * (x' - x) : Int) : Rat) := by subst hp; subst hq; unfold thC; rw [Rat.intCast_sub, Rat.intCast_mul, Rat.intCast_mul, Rat.intCast_sub, Rat.intCast_sub]; grind
  have hG := lnG_pos (thC p.1 p.2 q.1 q.2) hn
  rw [t1, t2, t3] at e1 e2 e3 hG
  unfold lnK at e1 e2 e3
  rw [lnG_int] at e1 e2 e3 hG
  generalize gcd3 (y - y') (x' - x) (x * (y' - y) - y * (x' - x)) = G at *
  have hG1 : 1 ≤ G := by
    have : (0 : Int) < (G : Int) := Rat.intCast_pos.1 hG
    omega
  have hi := Rat.mul_inv_cancel _ (Rat.ne_of_gt hG)
  have c1 : A * (G : Int) = y - y' := by
    have : ((A * (G : Int) : Int) : Rat) = ((y - y' : Int) : Rat) := by rw [Rat.intCast_mul, e1]; grind
    exact_mod_cast this
  have c2 : B * (G : Int) = x' - x := by
    have : ((B * (G : Int) : Int) : Rat) = ((x' - x : Int) : Rat) := by rw [Rat.intCast_mul, e2]; grind
    exact_mod_cast this
  have c3 : C * (G : Int) = x * (y' - y) - y * (x' - x) := by
    have : ((C * (G : Int) : Int) : Rat) = ((x * (y' - y) - y * (x' - x) : Int) : Rat) := by rw [Rat.intCast_mul, e3]; grind
    exact_mod_cast this
  have ab : ∀ {z u : Int}, z * (G : Int) = u → z.natAbs ≤ u.natAbs := fun {z u} e => by
    rw [← e, Int.natAbs_mul, Int.natAbs_natCast]
    have := Nat.mul_le_mul_left z.natAbs hG1
    omega
  have m1 := mulB (a := x) (b := y' - y) (m := 8) (n := 16) (by omega) (by omega)
  have m2 := mulB (a := y) (b := x' - x) (m := 8) (n := 16) (by omega) (by omega)
  have q1 := ab c1
  have q2 := ab c2
  have q3 := ab c3
  exact ⟨by omega, by omega, by omega⟩
theorem par_small {a b x y : Int} (h : ¬ (a = 0 ∧ b = 0)) (ha : a.natAbs ≤ 16) (hb : b.natAbs ≤ 16) (b1 : -8 ≤ x ∧ x ≤ 8) (b2 : -8 ≤ y ∧ y ≤ 8) : (parL (a : Rat) (b : Rat) (x : Rat) (y : Rat)).num.natAbs ≤ 256 ∧ (parL (a : Rat) (b : Rat) (x : Rat) (y : Rat)).den ≤ 512 := by
  have e : parL (a : Rat) (b : Rat) (x : Rat) (y : Rat) = ((b * x - a * y : Int) : Rat) / ((b * b + a * a : Int) : Rat) := by
    unfold parL
    rw [Rat.intCast_sub, Rat.intCast_mul, Rat.intCast_mul, Rat.intCast_add, Rat.intCast_mul, Rat.intCast_mul]
    congr 1 <;> grind
  have hd : (b * b + a * a : Int) ≠ 0 := fun e0 => by
    have := sq_ne h
    refine this ?_
    have e2 : (a : Rat) * a + (b : Rat) * b = ((b * b + a * a : Int) : Rat) := by rw [Rat.intCast_add, Rat.intCast_mul, Rat.intCast_mul]; grind
    rw [e2, e0]; rfl
  rw [e]
  have hs := quo_small (n := b * x - a * y) hd
  have m1 := mulB (a := b) (b := x) (m := 16) (n := 8) hb (by omega)
  have m2 := mulB (a := a) (b := y) (m := 16) (n := 8) ha (by omega)
  have m3 := mulB (a := a) (b := a) (m := 16) (n := 16) ha ha
  have m4 := mulB (a := b) (b := b) (m := 16) (n := 16) hb hb
  exact ⟨Nat.le_trans hs.1 (by omega), Nat.le_trans hs.2 (by omega)⟩
/-- Small numbers. -/
structure SmG (f : FG) : Prop where
  a : f.a.natAbs ≤ 16
  b : f.b.natAbs ≤ 16
  c : f.c.natAbs ≤ 256
  lo : f.lo.num.natAbs ≤ 256 ∧ f.lo.den ≤ 512
  hi : f.hi.num.natAbs ≤ 256 ∧ f.hi.den ≤ 512
theorem edge_small {L : List (Rat × Rat)} (h : IntL L) (hR : RingOK L) {i : Nat} (hi : i < L.length) : SmG (edgeF L i) := by
  have hj : (i + 1) % L.length < L.length := Nat.mod_lt _ (by omega)
  obtain ⟨x, y, e1, b1, b2⟩ := h i hi
  obtain ⟨x', y', e2, b3, b4⟩ := h _ hj
  have hne := hR.edge i hi
  obtain ⟨s1, s2, s3⟩ := seg_small e1 e2 hne b1 b2 b3 b4
  have hv := (segG_v hne).v.1
  refine ⟨s1, s2, s3, ?_, ?_⟩
  · show (parL ((segG (pg L i) (pg L ((i + 1) % L.length))).a : Rat) ((segG (pg L i) (pg L ((i + 1) % L.length))).b : Rat) (pg L i).1 (pg L i).2).num.natAbs ≤ 256 ∧ (parL ((segG (pg L i) (pg L ((i + 1) % L.length))).a : Rat) ((segG (pg L i) (pg L ((i + 1) % L.length))).b : Rat) (pg L i).1 (pg L i).2).den ≤ 512
    have := par_small hv s1 s2 b1 b2
    rw [e1] at this ⊢
    exact this
  · show (parL ((segG (pg L i) (pg L ((i + 1) % L.length))).a : Rat) ((segG (pg L i) (pg L ((i + 1) % L.length))).b : Rat) (pg L ((i + 1) % L.length)).1 (pg L ((i + 1) % L.length)).2).num.natAbs ≤ 256 ∧ (parL ((segG (pg L i) (pg L ((i + 1) % L.length))).a : Rat) ((segG (pg L i) (pg L ((i + 1) % L.length))).b : Rat) (pg L ((i + 1) % L.length)).1 (pg L ((i + 1) % L.length)).2).den ≤ 512
    have := par_small hv s1 s2 b3 b4
    rw [e2] at this ⊢
    exact this
theorem edges_len (L : List (Rat × Rat)) : (edgesL L).length = L.length := by simp [edgesL]
theorem edges_at {L : List (Rat × Rat)} {i : Nat} (h : i < L.length) : fg (edgesL L) i = edgeF L i := by
  rw [fg_get (by rw [edges_len]; exact h)]; simp [edgesL]
theorem FsG.tight {W : World} {V : List GV} {L : List (Rat × Rat)} {k : Nat} (h : FsG W V (edgesL L) k) (hI : IntL L) (hR : RingOK L) : FsG W V (edgesL L) 2 := by
  have hl : V.length = L.length := h.len.trans (edges_len L)
  have hs : ∀ i, i < V.length → SmG (fg (edgesL L) i) := fun i hi => by rw [edges_at (by omega)]; exact edge_small hI hR (by omega)
  have hz : ∀ z : Int, ((z : Rat)).num = z ∧ ((z : Rat)).den = 1 := fun z => ⟨rfl, rfl⟩
  refine ⟨h.len, fun i hi => (h.x i hi).tight ?_ ?_, fun i hi => (h.y i hi).tight ?_ ?_, fun i hi => (h.z i hi).tight ?_ ?_, fun i hi => (h.u i hi).tight ?_ ?_, fun i hi => (h.v i hi).tight ?_ ?_⟩
  all_goals
    have s := hs i hi
    have s1 := s.a
    have s2 := s.b
    have s3 := s.c
    have s4 := s.lo
    have s5 := s.hi
    first
      | (rw [(hz _).1]; omega)
      | (rw [(hz _).2]; omega)
      | omega
end Go.Proofs.YtdlnoeegboapkaaGreatDoor

/- When two segments overlap, and where they meet, as it is computed. Plain facts. -/
namespace Go.Proofs.YtdlnoeegboapkaaGreatDoor
open Go.RowKit
set_option linter.unusedVariables false

def rmax (x y : Rat) : Rat := if x < y then y else x
def rmin (x y : Rat) : Rat := if y < x then y else x
theorem lt_mm {a b c d : Rat} : rmax a b < rmin c d ↔ a < c ∧ a < d ∧ b < c ∧ b < d := by
  unfold rmax rmin
  split <;> split <;> constructor <;> intro h <;> grind
theorem ov_mm {f g : FG} {lo hi : Rat} (hf : FGV f) (hl : lo < hi) (h : OntoP f g lo hi) : OvP f g ↔ rmax f.lo lo < rmin f.hi hi := by
  rw [h.ov hf hl, lt_mm]
  have := hf.lt
  constructor
  · intro h; exact ⟨by grind, by grind, by grind, by grind⟩
  · intro h; exact ⟨by grind, by grind⟩
/-- The lines of f and g are the same, or reversed. -/
def SmL (f g : FG) : Prop := f.a = g.a ∧ f.b = g.b ∧ f.c = g.c
def OpL (f g : FG) : Prop := f.a = -g.a ∧ f.b = -g.b ∧ f.c = -g.c
def dtL (f g : FG) : Rat := (f.a : Rat) * g.b - f.b * g.a
theorem no_ov {f g : FG} (hf : FGV f) (hg : FGV g) (h1 : ¬ SmL f g) (h2 : ¬ OpL f g) : ¬ OvP f g := by
  by_cases hd : dtL f g = 0
  · rintro ⟨p, q, _, hc, _⟩
    rcases par_same hf hg hd hc with e | e
    · exact h1 e
    · exact h2 e
  · exact lines_noOv hd
theorem par_no {f g : FG} (hf : FGV f) (hg : FGV g) (h1 : ¬ SmL f g) (h2 : ¬ OpL f g) (hd : dtL f g = 0) {p : Rat × Rat} : ¬ MtP f g p := by
  intro hm
  rcases par_same hf hg hd hm.1 with e | e
  · exact h1 e
  · exact h2 e
/-- Where the lines meet. -/
def mtX (f g : FG) : Rat := ((f.b : Rat) * g.c - f.c * g.b) / dtL f g
def mtY (f g : FG) : Rat := ((f.c : Rat) * g.a - f.a * g.c) / dtL f g
theorem mt_on {f g : FG} (hd : dtL f g ≠ 0) : onL f.a f.b f.c (mtX f g) (mtY f g) ∧ onL g.a g.b g.c (mtX f g) (mtY f g) := by
  have hi := Rat.mul_inv_cancel _ hd
  unfold onL mtX mtY
  rw [Rat.div_def, Rat.div_def]
  unfold dtL at *
  generalize ((f.a : Rat) * g.b - f.b * g.a)⁻¹ = M at hi
  constructor
  · have : (f.a : Rat) * (((f.b : Rat) * g.c - f.c * g.b) * M) + (f.b : Rat) * (((f.c : Rat) * g.a - f.a * g.c) * M) + (f.c : Rat) = (f.c : Rat) * (1 - ((f.a : Rat) * g.b - f.b * g.a) * M) := by grind
    rw [this, hi]; grind
  · have : (g.a : Rat) * (((f.b : Rat) * g.c - f.c * g.b) * M) + (g.b : Rat) * (((f.c : Rat) * g.a - f.a * g.c) * M) + (g.c : Rat) = (g.c : Rat) * (1 - ((f.a : Rat) * g.b - f.b * g.a) * M) := by grind
    rw [this, hi]; grind
def inV (lo hi t : Rat) : Prop := lo ≤ t ∧ t ≤ hi
instance {lo hi t : Rat} : Decidable (inV lo hi t) := inferInstanceAs (Decidable (_ ∧ _))
theorem mt_ok {f g : FG} (hd : dtL f g ≠ 0) (h1 : inV f.lo f.hi (parL f.a f.b (mtX f g) (mtY f g))) (h2 : inV g.lo g.hi (parL g.a g.b (mtX f g) (mtY f g))) : MtP f g (mtX f g, mtY f g) :=
  lines_mt hd ⟨⟨(mt_on hd).1, h1⟩, ⟨(mt_on hd).2, h2⟩⟩
theorem mt_eq {f g : FG} (hd : dtL f g ≠ 0) {p : Rat × Rat} (h : MtP f g p) : p = (mtX f g, mtY f g) := by
  obtain ⟨⟨a1, _⟩, ⟨b1, _⟩⟩ := h.1
  obtain ⟨a2, b2⟩ := mt_on hd
  unfold onL at a1 a2 b1 b2
  unfold dtL at hd
  have e1 : ((f.a : Rat) * g.b - f.b * g.a) * (p.1 - mtX f g) = 0 := by grind
  have e2 : ((f.a : Rat) * g.b - f.b * g.a) * (p.2 - mtY f g) = 0 := by grind
  have e3 := (Rat.mul_eq_zero.1 e1).resolve_left hd
  have e4 := (Rat.mul_eq_zero.1 e2).resolve_left hd
  exact Prod.ext_iff.2 ⟨by grind, by grind⟩
theorem mt_no1 {f g : FG} (hd : dtL f g ≠ 0) (h : ¬ inV f.lo f.hi (parL f.a f.b (mtX f g) (mtY f g))) {p : Rat × Rat} : ¬ MtP f g p := by
  intro hm
  have e := mt_eq hd hm
  have := hm.1.1.2
  rw [e] at this
  exact h this
theorem mt_no2 {f g : FG} (hd : dtL f g ≠ 0) (h : ¬ inV g.lo g.hi (parL g.a g.b (mtX f g) (mtY f g))) {p : Rat × Rat} : ¬ MtP f g p := by
  intro hm
  have e := mt_eq hd hm
  have := hm.1.2.2
  rw [e] at this
  exact h this
theorem not_sm_op {f g : FG} (h : FGV f) (e : SmL f g) : ¬ OpL f g := by
  rintro ⟨h1, h2, _⟩
  obtain ⟨e1, e2, _⟩ := e
  exact h.v.1 ⟨by omega, by omega⟩
end Go.Proofs.YtdlnoeegboapkaaGreatDoor
