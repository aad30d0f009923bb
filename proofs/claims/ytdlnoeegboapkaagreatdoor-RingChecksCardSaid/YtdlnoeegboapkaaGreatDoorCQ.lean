/-
  Texts of this claim, joined: Fs, Lnp, Lnq, Sgm.
-/
import Derived.Test.YtdlnoeegboapkaaGreatDoorCL
import Derived.Test.YtdlnoeegboapkaaGreatDoorCM
import Derived.Test.YtdlnoeegboapkaaGreatDoorCO
/- Rows of fragments: lists of segments on lines of integers. printed by a small program (mkfs.py). -/
namespace Go.Proofs.YtdlnoeegboapkaaGreatDoor
open Go.RowKit
set_option maxRecDepth 100000
set_option maxHeartbeats 4000000

/-- A segment: the line's coefficients and the parameters of its ends. -/
structure FG where
  a : Int
  b : Int
  c : Int
  lo : Rat
  hi : Rat
def fg (L : List FG) (i : Nat) : FG := L.getD i ⟨0, 0, 0, 0, 0⟩
theorem fg_get {L : List FG} {i : Nat} (h : i < L.length) : fg L i = L[i] := getD_lt h
/-- The cells of fragments of package geo. -/
structure GV where
  nx : Int
  dx : Int
  px : Option Addr
  ny : Int
  dy : Int
  py : Option Addr
  nz : Int
  dz : Int
  pz : Option Addr
  nu : Int
  du : Int
  pu : Option Addr
  nv : Int
  dv : Int
  pv : Option Addr
def GV.l (v : GV) : List Value := [.int .i64 v.nx, .int .i64 v.dx, .pointer v.px, .int .i64 v.ny, .int .i64 v.dy, .pointer v.py, .int .i64 v.nz, .int .i64 v.dz, .pointer v.pz, .int .i64 v.nu, .int .i64 v.du, .pointer v.pu, .int .i64 v.nv, .int .i64 v.dv, .pointer v.pv, .bool false, .bool false]
theorem GV.len (v : GV) : v.l.length = 17 := rfl
theorem GV.one (v : GV) : ∀ u ∈ v.l, u.oneCell' = true := by
  intro u hu; simp only [GV.l, List.mem_cons, List.not_mem_nil, or_false] at hu; rcases hu with rfl | rfl | rfl | rfl | rfl | rfl | rfl | rfl | rfl | rfl | rfl | rfl | rfl | rfl | rfl | rfl | rfl <;> rfl
theorem GV.nd (v : GV) : ∀ u ∈ v.l, isDigit32 u = false := by
  intro u hu; simp only [GV.l, List.mem_cons, List.not_mem_nil, or_false] at hu; rcases hu with rfl | rfl | rfl | rfl | rfl | rfl | rfl | rfl | rfl | rfl | rfl | rfl | rfl | rfl | rfl | rfl | rfl <;> rfl
def rowG (V : List GV) : List Value := V.flatMap GV.l
theorem rowG_snoc (V : List GV) (a : GV) : rowG (V ++ [a]) = rowG V ++ a.l := flat_snoc _ _ _
theorem rowG_nd (V : List GV) : ∀ u ∈ rowG V, isDigit32 u = false := flat_nd GV.nd V
def gV (V : List GV) (i : Nat) : GV := V.getD i ⟨0, 0, none, 0, 0, none, 0, 0, none, 0, 0, none, 0, 0, none⟩
theorem gV_get {V : List GV} {i : Nat} (h : i < V.length) : gV V i = V[i] := getD_lt h
theorem at_gV {W w0 : World} {g k j : Nat} {V : List GV} (h : At W g (rowG V) w0) (hk : k < V.length) (hj : j < 17) : W.cell? ⟨g, k * 17 + j, none⟩ = some ((gV V k).l[j]'hj) := by
  rw [gV_get hk]
  exact h.out _ _ (by rw [rowG, flat_get GV.len V k j hk hj]; exact List.getElem?_eq_getElem (l := V[k].l) hj)
@[go_sem] theorem cell_gV0 {W w0 : World} {g k : Nat} {V : List GV} [h : At W g (rowG V) w0] (hk : k < V.length) : W.cell? ⟨g, k * 17, none⟩ = some (.int .i64 (gV V k).nx) := at_gV h hk (j := 0) (by decide)
@[go_sem] theorem cell_gV1 {W w0 : World} {g k : Nat} {V : List GV} [h : At W g (rowG V) w0] (hk : k < V.length) : W.cell? ⟨g, k * 17 + 1, none⟩ = some (.int .i64 (gV V k).dx) := at_gV h hk (j := 1) (by decide)
@[go_sem] theorem cell_gV2 {W w0 : World} {g k : Nat} {V : List GV} [h : At W g (rowG V) w0] (hk : k < V.length) : W.cell? ⟨g, k * 17 + 2, none⟩ = some (.pointer (gV V k).px) := at_gV h hk (j := 2) (by decide)
@[go_sem] theorem cell_gV3 {W w0 : World} {g k : Nat} {V : List GV} [h : At W g (rowG V) w0] (hk : k < V.length) : W.cell? ⟨g, k * 17 + 3, none⟩ = some (.int .i64 (gV V k).ny) := at_gV h hk (j := 3) (by decide)
@[go_sem] theorem cell_gV4 {W w0 : World} {g k : Nat} {V : List GV} [h : At W g (rowG V) w0] (hk : k < V.length) : W.cell? ⟨g, k * 17 + 4, none⟩ = some (.int .i64 (gV V k).dy) := at_gV h hk (j := 4) (by decide)
@[go_sem] theorem cell_gV5 {W w0 : World} {g k : Nat} {V : List GV} [h : At W g (rowG V) w0] (hk : k < V.length) : W.cell? ⟨g, k * 17 + 5, none⟩ = some (.pointer (gV V k).py) := at_gV h hk (j := 5) (by decide)
@[go_sem] theorem cell_gV6 {W w0 : World} {g k : Nat} {V : List GV} [h : At W g (rowG V) w0] (hk : k < V.length) : W.cell? ⟨g, k * 17 + 6, none⟩ = some (.int .i64 (gV V k).nz) := at_gV h hk (j := 6) (by decide)
@[go_sem] theorem cell_gV7 {W w0 : World} {g k : Nat} {V : List GV} [h : At W g (rowG V) w0] (hk : k < V.length) : W.cell? ⟨g, k * 17 + 7, none⟩ = some (.int .i64 (gV V k).dz) := at_gV h hk (j := 7) (by decide)
@[go_sem] theorem cell_gV8 {W w0 : World} {g k : Nat} {V : List GV} [h : At W g (rowG V) w0] (hk : k < V.length) : W.cell? ⟨g, k * 17 + 8, none⟩ = some (.pointer (gV V k).pz) := at_gV h hk (j := 8) (by decide)
@[go_sem] theorem cell_gV9 {W w0 : World} {g k : Nat} {V : List GV} [h : At W g (rowG V) w0] (hk : k < V.length) : W.cell? ⟨g, k * 17 + 9, none⟩ = some (.int .i64 (gV V k).nu) := at_gV h hk (j := 9) (by decide)
@[go_sem] theorem cell_gV10 {W w0 : World} {g k : Nat} {V : List GV} [h : At W g (rowG V) w0] (hk : k < V.length) : W.cell? ⟨g, k * 17 + 10, none⟩ = some (.int .i64 (gV V k).du) := at_gV h hk (j := 10) (by decide)
@[go_sem] theorem cell_gV11 {W w0 : World} {g k : Nat} {V : List GV} [h : At W g (rowG V) w0] (hk : k < V.length) : W.cell? ⟨g, k * 17 + 11, none⟩ = some (.pointer (gV V k).pu) := at_gV h hk (j := 11) (by decide)
@[go_sem] theorem cell_gV12 {W w0 : World} {g k : Nat} {V : List GV} [h : At W g (rowG V) w0] (hk : k < V.length) : W.cell? ⟨g, k * 17 + 12, none⟩ = some (.int .i64 (gV V k).nv) := at_gV h hk (j := 12) (by decide)
@[go_sem] theorem cell_gV13 {W w0 : World} {g k : Nat} {V : List GV} [h : At W g (rowG V) w0] (hk : k < V.length) : W.cell? ⟨g, k * 17 + 13, none⟩ = some (.int .i64 (gV V k).dv) := at_gV h hk (j := 13) (by decide)
@[go_sem] theorem cell_gV14 {W w0 : World} {g k : Nat} {V : List GV} [h : At W g (rowG V) w0] (hk : k < V.length) : W.cell? ⟨g, k * 17 + 14, none⟩ = some (.pointer (gV V k).pv) := at_gV h hk (j := 14) (by decide)
@[go_sem] theorem cell_gV15 {W w0 : World} {g k : Nat} {V : List GV} [h : At W g (rowG V) w0] (hk : k < V.length) : W.cell? ⟨g, k * 17 + 15, none⟩ = some (.bool false) := at_gV h hk (j := 15) (by decide)
@[go_sem] theorem cell_gV16 {W w0 : World} {g k : Nat} {V : List GV} [h : At W g (rowG V) w0] (hk : k < V.length) : W.cell? ⟨g, k * 17 + 16, none⟩ = some (.bool false) := at_gV h hk (j := 16) (by decide)
@[go_sem] theorem load_G {W w0 : World} {g k : Nat} {V : List GV} [h : At W g (rowG V) w0] (hk : k < V.length) : (loadVar 182 ⟨g, k * 17, none⟩).run Tryz.prog W = .ok (.agg #[.int .i64 (gV V k).nx, .int .i64 (gV V k).dx, .pointer (gV V k).px, .int .i64 (gV V k).ny, .int .i64 (gV V k).dy, .pointer (gV V k).py, .int .i64 (gV V k).nz, .int .i64 (gV V k).dz, .pointer (gV V k).pz, .int .i64 (gV V k).nu, .int .i64 (gV V k).du, .pointer (gV V k).pu, .int .i64 (gV V k).nv, .int .i64 (gV V k).dv, .pointer (gV V k).pv, .bool false, .bool false]) W :=
  load_off W g (k * 17) 182 (gV V k).l _ Tryz.underlying182 rfl (by kernel_rfl) (fun j hj => at_gV h hk hj)
/-- The cells V read as the fragments of package geo of the list L. -/
class FsG (W : World) (V : List GV) (L : outParam (List FG)) (k : outParam Nat) : Prop where
  len : V.length = L.length
  x : ∀ i, i < V.length → CF W (.agg #[.int .i64 (gV V i).nx, .int .i64 (gV V i).dx, .pointer (gV V i).px]) (((fg L i).a : Rat)) k
  y : ∀ i, i < V.length → CF W (.agg #[.int .i64 (gV V i).ny, .int .i64 (gV V i).dy, .pointer (gV V i).py]) (((fg L i).b : Rat)) k
  z : ∀ i, i < V.length → CF W (.agg #[.int .i64 (gV V i).nz, .int .i64 (gV V i).dz, .pointer (gV V i).pz]) (((fg L i).c : Rat)) k
  u : ∀ i, i < V.length → CF W (.agg #[.int .i64 (gV V i).nu, .int .i64 (gV V i).du, .pointer (gV V i).pu]) ((fg L i).lo) k
  v : ∀ i, i < V.length → CF W (.agg #[.int .i64 (gV V i).nv, .int .i64 (gV V i).dv, .pointer (gV V i).pv]) ((fg L i).hi) k
instance FsG.al {W : World} {V : List GV} {L : List FG} {k : Nat} {o : Obj} [h : FsG W V L k] : FsG (W.alloc o) V L k := ⟨h.len, fun i hi => by have := h.x i hi; infer_instance, fun i hi => by have := h.y i hi; infer_instance, fun i hi => by have := h.z i hi; infer_instance, fun i hi => by have := h.u i hi; infer_instance, fun i hi => by have := h.v i hi; infer_instance⟩
instance FsG.dr {W : World} {V : List GV} {L : List FG} {k : Nat} [h : FsG W V L k] : FsG W.drew V L k := ⟨h.len, fun i hi => by have := h.x i hi; infer_instance, fun i hi => by have := h.y i hi; infer_instance, fun i hi => by have := h.z i hi; infer_instance, fun i hi => by have := h.u i hi; infer_instance, fun i hi => by have := h.v i hi; infer_instance⟩
instance FsG.drN {W : World} {V : List GV} {L : List FG} {k : Nat} {j : Nat} [h : FsG W V L k] : FsG (W.drewN j) V L k := ⟨h.len, fun i hi => by have := h.x i hi; infer_instance, fun i hi => by have := h.y i hi; infer_instance, fun i hi => by have := h.z i hi; infer_instance, fun i hi => by have := h.u i hi; infer_instance, fun i hi => by have := h.v i hi; infer_instance⟩
instance (priority := low) FsG.kp {W W2 : World} {V : List GV} {L : List FG} {k : Nat} [b : Kp1 W W2] [h : FsG W V L k] : FsG W2 V L k := ⟨h.len, fun i hi => by have := h.x i hi; infer_instance, fun i hi => by have := h.y i hi; infer_instance, fun i hi => by have := h.z i hi; infer_instance, fun i hi => by have := h.u i hi; infer_instance, fun i hi => by have := h.v i hi; infer_instance⟩
instance (priority := low) FsG.tp {W W2 : World} {V : List GV} {L : List FG} {k : Nat} {g : Nat} [b : Tp1 W W2 g] [h : FsG W V L k] : FsG W2 V L k := ⟨h.len, fun i hi => by have := h.x i hi; infer_instance, fun i hi => by have := h.y i hi; infer_instance, fun i hi => by have := h.z i hi; infer_instance, fun i hi => by have := h.u i hi; infer_instance, fun i hi => by have := h.v i hi; infer_instance⟩
instance (priority := low) FsG.apn {W W2 : World} {V : List GV} {L : List FG} {k : Nat} [b : Apn W W2] [h : FsG W V L k] : FsG W2 V L k := ⟨h.len, fun i hi => by have := h.x i hi; infer_instance, fun i hi => by have := h.y i hi; infer_instance, fun i hi => by have := h.z i hi; infer_instance, fun i hi => by have := h.u i hi; infer_instance, fun i hi => by have := h.v i hi; infer_instance⟩
instance FsG.st {W : World} {V : List GV} {L : List FG} {k : Nat} {qb ib : Nat} {xv : Value} [b : SoftB W qb] [h : FsG W V L k] : FsG (W.setCell ⟨qb, ib, none⟩ xv) V L k := ⟨h.len, fun i hi => by have := h.x i hi; infer_instance, fun i hi => by have := h.y i hi; infer_instance, fun i hi => by have := h.z i hi; infer_instance, fun i hi => by have := h.u i hi; infer_instance, fun i hi => by have := h.v i hi; infer_instance⟩
instance FsG.ix {W : World} {V : List GV} {L : List FG} {k : Nat} {i : Nat} [h : FsG W V L k] [l : LtN i V.length] : CF W (.agg #[.int .i64 (gV V i).nx, .int .i64 (gV V i).dx, .pointer (gV V i).px]) (((fg L i).a : Rat)) k := h.x i l.out
instance FsG.iy {W : World} {V : List GV} {L : List FG} {k : Nat} {i : Nat} [h : FsG W V L k] [l : LtN i V.length] : CF W (.agg #[.int .i64 (gV V i).ny, .int .i64 (gV V i).dy, .pointer (gV V i).py]) (((fg L i).b : Rat)) k := h.y i l.out
instance FsG.iz {W : World} {V : List GV} {L : List FG} {k : Nat} {i : Nat} [h : FsG W V L k] [l : LtN i V.length] : CF W (.agg #[.int .i64 (gV V i).nz, .int .i64 (gV V i).dz, .pointer (gV V i).pz]) (((fg L i).c : Rat)) k := h.z i l.out
instance FsG.iu {W : World} {V : List GV} {L : List FG} {k : Nat} {i : Nat} [h : FsG W V L k] [l : LtN i V.length] : CF W (.agg #[.int .i64 (gV V i).nu, .int .i64 (gV V i).du, .pointer (gV V i).pu]) ((fg L i).lo) k := h.u i l.out
instance FsG.iv {W : World} {V : List GV} {L : List FG} {k : Nat} {i : Nat} [h : FsG W V L k] [l : LtN i V.length] : CF W (.agg #[.int .i64 (gV V i).nv, .int .i64 (gV V i).dv, .pointer (gV V i).pv]) ((fg L i).hi) k := h.v i l.out
theorem FsG.nil {W : World} {k : Nat} : FsG W [] [] k := ⟨rfl, fun i hi => by simp at hi, fun i hi => by simp at hi, fun i hi => by simp at hi, fun i hi => by simp at hi, fun i hi => by simp at hi⟩
theorem FsG.mono {W : World} {V : List GV} {L : List FG} {k : Nat} {k' : Nat} (h : FsG W V L k) (b : k ≤ k') : FsG W V L k' := ⟨h.len, fun i hi => (h.x i hi).cast rfl b, fun i hi => (h.y i hi).cast rfl b, fun i hi => (h.z i hi).cast rfl b, fun i hi => (h.u i hi).cast rfl b, fun i hi => (h.v i hi).cast rfl b⟩
theorem FsG.snoc {W : World} {V : List GV} {L : List FG} {k : Nat} {e : GV} {a b c : Int} {lo hiq : Rat} {kx ky kz ku kv : Nat} (h : FsG W V L k) (hx : CF W (.agg #[.int .i64 (e).nx, .int .i64 (e).dx, .pointer (e).px]) (a : Rat) kx) (hy : CF W (.agg #[.int .i64 (e).ny, .int .i64 (e).dy, .pointer (e).py]) (b : Rat) ky) (hz : CF W (.agg #[.int .i64 (e).nz, .int .i64 (e).dz, .pointer (e).pz]) (c : Rat) kz) (hu : CF W (.agg #[.int .i64 (e).nu, .int .i64 (e).du, .pointer (e).pu]) lo ku) (hv : CF W (.agg #[.int .i64 (e).nv, .int .i64 (e).dv, .pointer (e).pv]) hiq kv) (bx : kx ≤ k) (b_y : ky ≤ k) (bz : kz ≤ k) (bu : ku ≤ k) (bv : kv ≤ k) : FsG W (V ++ [e]) (L ++ [⟨a, b, c, lo, hiq⟩]) k := by
  refine ⟨by simp [h.len], fun i hi => ?_, fun i hi => ?_, fun i hi => ?_, fun i hi => ?_, fun i hi => ?_⟩
  all_goals
    rcases Nat.lt_or_ge i V.length with hlt | hge
    · have e1 : gV (V ++ [e]) i = gV V i := by rw [gV_get hi, gV_get hlt, List.getElem_append_left hlt]
      have e2 : fg (L ++ [⟨a, b, c, lo, hiq⟩]) i = fg L i := by rw [fg_get (by rw [List.length_append, ← h.len]; omega), fg_get (by rw [← h.len]; exact hlt), List.getElem_append_left (by rw [← h.len]; exact hlt)]
      rw [e1, e2]
      first
        | exact h.x i hlt
        | exact h.y i hlt
        | exact h.z i hlt
        | exact h.u i hlt
        | exact h.v i hlt
    · have hi' : i = V.length := by simp at hi; omega
      subst hi'
      have e1 : gV (V ++ [e]) V.length = e := by rw [gV_get hi]; simp
      have e2 : fg (L ++ [⟨a, b, c, lo, hiq⟩]) V.length = ⟨a, b, c, lo, hiq⟩ := by rw [h.len, fg_get (by simp)]; simp
      rw [e1, e2]
      first
        | exact hx.cast rfl bx
        | exact hy.cast rfl b_y
        | exact hz.cast rfl bz
        | exact hu.cast rfl bu
        | exact hv.cast rfl bv
theorem FsG.add {W : World} {V : List GV} {L : List FG} {k : Nat} {nx1 : Int} {dx1 : Int} {px1 : Option Addr} {ny1 : Int} {dy1 : Int} {py1 : Option Addr} {nz1 : Int} {dz1 : Int} {pz1 : Option Addr} {nu1 : Int} {du1 : Int} {pu1 : Option Addr} {nv1 : Int} {dv1 : Int} {pv1 : Option Addr} {a b c : Int} {lo hi : Rat} {kx ky kz ku kv : Nat} [h : FsG W V L k] [hx : CF W (.agg #[.int .i64 nx1, .int .i64 dx1, .pointer px1]) (a : Rat) kx] [hy : CF W (.agg #[.int .i64 ny1, .int .i64 dy1, .pointer py1]) (b : Rat) ky] [hz : CF W (.agg #[.int .i64 nz1, .int .i64 dz1, .pointer pz1]) (c : Rat) kz] [hu : CF W (.agg #[.int .i64 nu1, .int .i64 du1, .pointer pu1]) lo ku] [hv : CF W (.agg #[.int .i64 nv1, .int .i64 dv1, .pointer pv1]) hi kv] (bx : kx ≤ k) (b_y : ky ≤ k) (bz : kz ≤ k) (bu : ku ≤ k) (bv : kv ≤ k) : FsG W (V ++ [⟨nx1, dx1, px1, ny1, dy1, py1, nz1, dz1, pz1, nu1, du1, pu1, nv1, dv1, pv1⟩]) (L ++ [⟨a, b, c, lo, hi⟩]) k := h.snoc hx hy hz hu hv bx b_y bz bu bv
/-- A list of fragments is returned. -/
def FsGRet (w : World) (L : List FG) (k : Nat) (e : Ending) (w' : World) : Prop := ∃ (a : Option Addr) (c : Nat) (V : List GV), e = .returned (.slice a V.length c) ∧ Sl w' (.slice a V.length c) V.length (rowG V) w' ∧ FsG w' V L k ∧ Below w.heap.size w w'
theorem Calls.cFsGRet {P : Program} {f : FuncId} {args : Array Value} {w : World} {L : List FG} {k : Nat} {K : Ending → World → Prop} (h : Calls P f args w (FsGRet w L k))
    (hK : ∀ w' [Kp1 w w'] (a : Option Addr) (c : Nat) (V : List GV) [Sl w' (.slice a V.length c) V.length (rowG V) w'] [FsG w' V L k], K (.returned (.slice a V.length c)) w') : Calls P f args w K := by
  refine h.mono ?_
  rintro e w' ⟨a, c, V, rfl, hs, hv, hb⟩
  exact @hK w' ⟨hb⟩ a c V hs hv
theorem FsGRet.fin {w w' w0 : World} {a : Option Addr} {c n : Nat} {V : List GV} {L L' : List FG} {k k' : Nat} [b : Kp w w'] [hs : Sl w' (.slice a n c) V.length (rowG V) w0] [hv : FsG w' V L k] (e : L = L') (m : k ≤ k') : FsGRet w L' k' (.returned (.slice a n c)) w' := by
  obtain rfl := hs.len
  subst e
  exact ⟨a, c, V, rfl, hs.here, hv.mono m, b.out⟩
/-- A list of fragments is returned. -/
def FsGEr (w : World) (L : List FG) (k : Nat) (e : Ending) (w' : World) : Prop := ∃ (a : Option Addr) (c : Nat) (V : List GV), e = .returned (.tuple #[.slice a V.length c, .nilIface]) ∧ Sl w' (.slice a V.length c) V.length (rowG V) w' ∧ FsG w' V L k ∧ Below w.heap.size w w'
theorem Calls.cFsGEr {P : Program} {f : FuncId} {args : Array Value} {w : World} {L : List FG} {k : Nat} {K : Ending → World → Prop} (h : Calls P f args w (FsGEr w L k))
    (hK : ∀ w' [Kp1 w w'] (a : Option Addr) (c : Nat) (V : List GV) [Sl w' (.slice a V.length c) V.length (rowG V) w'] [FsG w' V L k], K (.returned (.tuple #[.slice a V.length c, .nilIface])) w') : Calls P f args w K := by
  refine h.mono ?_
  rintro e w' ⟨a, c, V, rfl, hs, hv, hb⟩
  exact @hK w' ⟨hb⟩ a c V hs hv
theorem FsGEr.fin {w w' w0 : World} {a : Option Addr} {c n : Nat} {V : List GV} {L L' : List FG} {k k' : Nat} [b : Kp w w'] [hs : Sl w' (.slice a n c) V.length (rowG V) w0] [hv : FsG w' V L k] (e : L = L') (m : k ≤ k') : FsGEr w L' k' (.returned (.tuple #[.slice a n c, .nilIface])) w' := by
  obtain rfl := hs.len
  subst e
  exact ⟨a, c, V, rfl, hs.here, hv.mono m, b.out⟩
theorem info_gr : (Tryz.prog.info? 182).map (fun i => (i.zero, i.size, i.bytes)) = some (some (.agg #[.int .i64 0, .int .i64 0, .pointer none, .int .i64 0, .int .i64 0, .pointer none, .int .i64 0, .int .i64 0, .pointer none, .int .i64 0, .int .i64 0, .pointer none, .int .i64 0, .int .i64 0, .pointer none, .bool false, .bool false]), 17, 128) := by kernel_rfl
/-- The cells of fragments of package api, in normal form. -/
structure HV where
  gx : Bool
  ax : Option Addr
  lx : Nat
  cx : Nat
  gy : Bool
  ay : Option Addr
  ly : Nat
  cy : Nat
  gz : Bool
  az : Option Addr
  lz : Nat
  cz : Nat
  gu : Bool
  au : Option Addr
  lu : Nat
  cu : Nat
  aau : Option Addr
  llu : Nat
  ccu : Nat
  gv : Bool
  av : Option Addr
  lv : Nat
  cv : Nat
  aav : Option Addr
  llv : Nat
  ccv : Nat
def HV.l (v : HV) : List Value := [.bool v.gx, .slice v.ax v.lx v.cx, .bool v.gy, .slice v.ay v.ly v.cy, .bool v.gz, .slice v.az v.lz v.cz, .bool v.gu, .slice v.au v.lu v.cu, .slice v.aau v.llu v.ccu, .bool v.gv, .slice v.av v.lv v.cv, .slice v.aav v.llv v.ccv, .bool false, .bool false]
theorem HV.len (v : HV) : v.l.length = 14 := rfl
theorem HV.one (v : HV) : ∀ u ∈ v.l, u.oneCell' = true := by
  intro u hu; simp only [HV.l, List.mem_cons, List.not_mem_nil, or_false] at hu; rcases hu with rfl | rfl | rfl | rfl | rfl | rfl | rfl | rfl | rfl | rfl | rfl | rfl | rfl | rfl <;> rfl
theorem HV.nd (v : HV) : ∀ u ∈ v.l, isDigit32 u = false := by
  intro u hu; simp only [HV.l, List.mem_cons, List.not_mem_nil, or_false] at hu; rcases hu with rfl | rfl | rfl | rfl | rfl | rfl | rfl | rfl | rfl | rfl | rfl | rfl | rfl | rfl <;> rfl
def rowH (V : List HV) : List Value := V.flatMap HV.l
theorem rowH_snoc (V : List HV) (a : HV) : rowH (V ++ [a]) = rowH V ++ a.l := flat_snoc _ _ _
theorem rowH_nd (V : List HV) : ∀ u ∈ rowH V, isDigit32 u = false := flat_nd HV.nd V
def hV (V : List HV) (i : Nat) : HV := V.getD i ⟨false, none, 0, 0, false, none, 0, 0, false, none, 0, 0, false, none, 0, 0, none, 0, 0, false, none, 0, 0, none, 0, 0⟩
theorem hV_get {V : List HV} {i : Nat} (h : i < V.length) : hV V i = V[i] := getD_lt h
theorem at_hV {W w0 : World} {g k j : Nat} {V : List HV} (h : At W g (rowH V) w0) (hk : k < V.length) (hj : j < 14) : W.cell? ⟨g, k * 14 + j, none⟩ = some ((hV V k).l[j]'hj) := by
  rw [hV_get hk]
  exact h.out _ _ (by rw [rowH, flat_get HV.len V k j hk hj]; exact List.getElem?_eq_getElem (l := V[k].l) hj)
@[go_sem] theorem cell_hV0 {W w0 : World} {g k : Nat} {V : List HV} [h : At W g (rowH V) w0] (hk : k < V.length) : W.cell? ⟨g, k * 14, none⟩ = some (.bool (hV V k).gx) := at_hV h hk (j := 0) (by decide)
@[go_sem] theorem cell_hV1 {W w0 : World} {g k : Nat} {V : List HV} [h : At W g (rowH V) w0] (hk : k < V.length) : W.cell? ⟨g, k * 14 + 1, none⟩ = some (.slice (hV V k).ax (hV V k).lx (hV V k).cx) := at_hV h hk (j := 1) (by decide)
@[go_sem] theorem cell_hV2 {W w0 : World} {g k : Nat} {V : List HV} [h : At W g (rowH V) w0] (hk : k < V.length) : W.cell? ⟨g, k * 14 + 2, none⟩ = some (.bool (hV V k).gy) := at_hV h hk (j := 2) (by decide)
@[go_sem] theorem cell_hV3 {W w0 : World} {g k : Nat} {V : List HV} [h : At W g (rowH V) w0] (hk : k < V.length) : W.cell? ⟨g, k * 14 + 3, none⟩ = some (.slice (hV V k).ay (hV V k).ly (hV V k).cy) := at_hV h hk (j := 3) (by decide)
@[go_sem] theorem cell_hV4 {W w0 : World} {g k : Nat} {V : List HV} [h : At W g (rowH V) w0] (hk : k < V.length) : W.cell? ⟨g, k * 14 + 4, none⟩ = some (.bool (hV V k).gz) := at_hV h hk (j := 4) (by decide)
@[go_sem] theorem cell_hV5 {W w0 : World} {g k : Nat} {V : List HV} [h : At W g (rowH V) w0] (hk : k < V.length) : W.cell? ⟨g, k * 14 + 5, none⟩ = some (.slice (hV V k).az (hV V k).lz (hV V k).cz) := at_hV h hk (j := 5) (by decide)
@[go_sem] theorem cell_hV6 {W w0 : World} {g k : Nat} {V : List HV} [h : At W g (rowH V) w0] (hk : k < V.length) : W.cell? ⟨g, k * 14 + 6, none⟩ = some (.bool (hV V k).gu) := at_hV h hk (j := 6) (by decide)
@[go_sem] theorem cell_hV7 {W w0 : World} {g k : Nat} {V : List HV} [h : At W g (rowH V) w0] (hk : k < V.length) : W.cell? ⟨g, k * 14 + 7, none⟩ = some (.slice (hV V k).au (hV V k).lu (hV V k).cu) := at_hV h hk (j := 7) (by decide)
@[go_sem] theorem cell_hV8 {W w0 : World} {g k : Nat} {V : List HV} [h : At W g (rowH V) w0] (hk : k < V.length) : W.cell? ⟨g, k * 14 + 8, none⟩ = some (.slice (hV V k).aau (hV V k).llu (hV V k).ccu) := at_hV h hk (j := 8) (by decide)
@[go_sem] theorem cell_hV9 {W w0 : World} {g k : Nat} {V : List HV} [h : At W g (rowH V) w0] (hk : k < V.length) : W.cell? ⟨g, k * 14 + 9, none⟩ = some (.bool (hV V k).gv) := at_hV h hk (j := 9) (by decide)
@[go_sem] theorem cell_hV10 {W w0 : World} {g k : Nat} {V : List HV} [h : At W g (rowH V) w0] (hk : k < V.length) : W.cell? ⟨g, k * 14 + 10, none⟩ = some (.slice (hV V k).av (hV V k).lv (hV V k).cv) := at_hV h hk (j := 10) (by decide)
@[go_sem] theorem cell_hV11 {W w0 : World} {g k : Nat} {V : List HV} [h : At W g (rowH V) w0] (hk : k < V.length) : W.cell? ⟨g, k * 14 + 11, none⟩ = some (.slice (hV V k).aav (hV V k).llv (hV V k).ccv) := at_hV h hk (j := 11) (by decide)
@[go_sem] theorem cell_hV12 {W w0 : World} {g k : Nat} {V : List HV} [h : At W g (rowH V) w0] (hk : k < V.length) : W.cell? ⟨g, k * 14 + 12, none⟩ = some (.bool false) := at_hV h hk (j := 12) (by decide)
@[go_sem] theorem cell_hV13 {W w0 : World} {g k : Nat} {V : List HV} [h : At W g (rowH V) w0] (hk : k < V.length) : W.cell? ⟨g, k * 14 + 13, none⟩ = some (.bool false) := at_hV h hk (j := 13) (by decide)
@[go_sem] theorem load_H {W w0 : World} {g k : Nat} {V : List HV} [h : At W g (rowH V) w0] (hk : k < V.length) : (loadVar 160 ⟨g, k * 14, none⟩).run Tryz.prog W = .ok (.agg #[.bool (hV V k).gx, .slice (hV V k).ax (hV V k).lx (hV V k).cx, .bool (hV V k).gy, .slice (hV V k).ay (hV V k).ly (hV V k).cy, .bool (hV V k).gz, .slice (hV V k).az (hV V k).lz (hV V k).cz, .bool (hV V k).gu, .slice (hV V k).au (hV V k).lu (hV V k).cu, .slice (hV V k).aau (hV V k).llu (hV V k).ccu, .bool (hV V k).gv, .slice (hV V k).av (hV V k).lv (hV V k).cv, .slice (hV V k).aav (hV V k).llv (hV V k).ccv, .bool false, .bool false]) W :=
  load_off W g (k * 14) 160 (hV V k).l _ Tryz.underlying160 rfl (by kernel_rfl) (fun j hj => at_hV h hk hj)
/-- The cells V read as the fragments of package api, in normal form of the list L. -/
class FsH (W : World) (V : List HV) (L : outParam (List FG)) (k : outParam Nat) : Prop where
  len : V.length = L.length
  x : ∀ i, i < V.length → CZ W (.agg #[.bool (hV V i).gx, .slice (hV V i).ax (hV V i).lx (hV V i).cx]) ((fg L i).a) k
  y : ∀ i, i < V.length → CZ W (.agg #[.bool (hV V i).gy, .slice (hV V i).ay (hV V i).ly (hV V i).cy]) ((fg L i).b) k
  z : ∀ i, i < V.length → CZ W (.agg #[.bool (hV V i).gz, .slice (hV V i).az (hV V i).lz (hV V i).cz]) ((fg L i).c) k
  u : ∀ i, i < V.length → CA W (.agg #[.bool (hV V i).gu, .slice (hV V i).au (hV V i).lu (hV V i).cu, .slice (hV V i).aau (hV V i).llu (hV V i).ccu]) ((fg L i).lo) k
  v : ∀ i, i < V.length → CA W (.agg #[.bool (hV V i).gv, .slice (hV V i).av (hV V i).lv (hV V i).cv, .slice (hV V i).aav (hV V i).llv (hV V i).ccv]) ((fg L i).hi) k
instance FsH.al {W : World} {V : List HV} {L : List FG} {k : Nat} {o : Obj} [h : FsH W V L k] : FsH (W.alloc o) V L k := ⟨h.len, fun i hi => by have := h.x i hi; infer_instance, fun i hi => by have := h.y i hi; infer_instance, fun i hi => by have := h.z i hi; infer_instance, fun i hi => by have := h.u i hi; infer_instance, fun i hi => by have := h.v i hi; infer_instance⟩
instance FsH.dr {W : World} {V : List HV} {L : List FG} {k : Nat} [h : FsH W V L k] : FsH W.drew V L k := ⟨h.len, fun i hi => by have := h.x i hi; infer_instance, fun i hi => by have := h.y i hi; infer_instance, fun i hi => by have := h.z i hi; infer_instance, fun i hi => by have := h.u i hi; infer_instance, fun i hi => by have := h.v i hi; infer_instance⟩
instance FsH.drN {W : World} {V : List HV} {L : List FG} {k : Nat} {j : Nat} [h : FsH W V L k] : FsH (W.drewN j) V L k := ⟨h.len, fun i hi => by have := h.x i hi; infer_instance, fun i hi => by have := h.y i hi; infer_instance, fun i hi => by have := h.z i hi; infer_instance, fun i hi => by have := h.u i hi; infer_instance, fun i hi => by have := h.v i hi; infer_instance⟩
instance (priority := low) FsH.kp {W W2 : World} {V : List HV} {L : List FG} {k : Nat} [b : Kp1 W W2] [h : FsH W V L k] : FsH W2 V L k := ⟨h.len, fun i hi => by have := h.x i hi; infer_instance, fun i hi => by have := h.y i hi; infer_instance, fun i hi => by have := h.z i hi; infer_instance, fun i hi => by have := h.u i hi; infer_instance, fun i hi => by have := h.v i hi; infer_instance⟩
instance (priority := low) FsH.tp {W W2 : World} {V : List HV} {L : List FG} {k : Nat} {g : Nat} [b : Tp1 W W2 g] [h : FsH W V L k] : FsH W2 V L k := ⟨h.len, fun i hi => by have := h.x i hi; infer_instance, fun i hi => by have := h.y i hi; infer_instance, fun i hi => by have := h.z i hi; infer_instance, fun i hi => by have := h.u i hi; infer_instance, fun i hi => by have := h.v i hi; infer_instance⟩
instance (priority := low) FsH.apn {W W2 : World} {V : List HV} {L : List FG} {k : Nat} [b : Apn W W2] [h : FsH W V L k] : FsH W2 V L k := ⟨h.len, fun i hi => by have := h.x i hi; infer_instance, fun i hi => by have := h.y i hi; infer_instance, fun i hi => by have := h.z i hi; infer_instance, fun i hi => by have := h.u i hi; infer_instance, fun i hi => by have := h.v i hi; infer_instance⟩
instance FsH.st {W : World} {V : List HV} {L : List FG} {k : Nat} {qb ib : Nat} {xv : Value} [b : SoftB W qb] [h : FsH W V L k] : FsH (W.setCell ⟨qb, ib, none⟩ xv) V L k := ⟨h.len, fun i hi => by have := h.x i hi; infer_instance, fun i hi => by have := h.y i hi; infer_instance, fun i hi => by have := h.z i hi; infer_instance, fun i hi => by have := h.u i hi; infer_instance, fun i hi => by have := h.v i hi; infer_instance⟩
instance FsH.ix {W : World} {V : List HV} {L : List FG} {k : Nat} {i : Nat} [h : FsH W V L k] [l : LtN i V.length] : CZ W (.agg #[.bool (hV V i).gx, .slice (hV V i).ax (hV V i).lx (hV V i).cx]) ((fg L i).a) k := h.x i l.out
instance FsH.iy {W : World} {V : List HV} {L : List FG} {k : Nat} {i : Nat} [h : FsH W V L k] [l : LtN i V.length] : CZ W (.agg #[.bool (hV V i).gy, .slice (hV V i).ay (hV V i).ly (hV V i).cy]) ((fg L i).b) k := h.y i l.out
instance FsH.iz {W : World} {V : List HV} {L : List FG} {k : Nat} {i : Nat} [h : FsH W V L k] [l : LtN i V.length] : CZ W (.agg #[.bool (hV V i).gz, .slice (hV V i).az (hV V i).lz (hV V i).cz]) ((fg L i).c) k := h.z i l.out
instance FsH.iu {W : World} {V : List HV} {L : List FG} {k : Nat} {i : Nat} [h : FsH W V L k] [l : LtN i V.length] : CA W (.agg #[.bool (hV V i).gu, .slice (hV V i).au (hV V i).lu (hV V i).cu, .slice (hV V i).aau (hV V i).llu (hV V i).ccu]) ((fg L i).lo) k := h.u i l.out
instance FsH.iv {W : World} {V : List HV} {L : List FG} {k : Nat} {i : Nat} [h : FsH W V L k] [l : LtN i V.length] : CA W (.agg #[.bool (hV V i).gv, .slice (hV V i).av (hV V i).lv (hV V i).cv, .slice (hV V i).aav (hV V i).llv (hV V i).ccv]) ((fg L i).hi) k := h.v i l.out
theorem FsH.nil {W : World} {k : Nat} : FsH W [] [] k := ⟨rfl, fun i hi => by simp at hi, fun i hi => by simp at hi, fun i hi => by simp at hi, fun i hi => by simp at hi, fun i hi => by simp at hi⟩
theorem FsH.mono {W : World} {V : List HV} {L : List FG} {k : Nat} {k' : Nat} (h : FsH W V L k) (b : k ≤ k') : FsH W V L k' := ⟨h.len, fun i hi => (h.x i hi).cast rfl b, fun i hi => (h.y i hi).cast rfl b, fun i hi => (h.z i hi).cast rfl b, fun i hi => (h.u i hi).cast rfl b, fun i hi => (h.v i hi).cast rfl b⟩
theorem FsH.snoc {W : World} {V : List HV} {L : List FG} {k : Nat} {e : HV} {a b c : Int} {lo hiq : Rat} {kx ky kz ku kv : Nat} (h : FsH W V L k) (hx : CZ W (.agg #[.bool (e).gx, .slice (e).ax (e).lx (e).cx]) a kx) (hy : CZ W (.agg #[.bool (e).gy, .slice (e).ay (e).ly (e).cy]) b ky) (hz : CZ W (.agg #[.bool (e).gz, .slice (e).az (e).lz (e).cz]) c kz) (hu : CA W (.agg #[.bool (e).gu, .slice (e).au (e).lu (e).cu, .slice (e).aau (e).llu (e).ccu]) lo ku) (hv : CA W (.agg #[.bool (e).gv, .slice (e).av (e).lv (e).cv, .slice (e).aav (e).llv (e).ccv]) hiq kv) (bx : kx ≤ k) (b_y : ky ≤ k) (bz : kz ≤ k) (bu : ku ≤ k) (bv : kv ≤ k) : FsH W (V ++ [e]) (L ++ [⟨a, b, c, lo, hiq⟩]) k := by
  refine ⟨by simp [h.len], fun i hi => ?_, fun i hi => ?_, fun i hi => ?_, fun i hi => ?_, fun i hi => ?_⟩
  all_goals
    rcases Nat.lt_or_ge i V.length with hlt | hge
    · have e1 : hV (V ++ [e]) i = hV V i := by rw [hV_get hi, hV_get hlt, List.getElem_append_left hlt]
      have e2 : fg (L ++ [⟨a, b, c, lo, hiq⟩]) i = fg L i := by rw [fg_get (by rw [List.length_append, ← h.len]; omega), fg_get (by rw [← h.len]; exact hlt), List.getElem_append_left (by rw [← h.len]; exact hlt)]
      rw [e1, e2]
      first
        | exact h.x i hlt
        | exact h.y i hlt
        | exact h.z i hlt
        | exact h.u i hlt
        | exact h.v i hlt
    · have hi' : i = V.length := by simp at hi; omega
      subst hi'
      have e1 : hV (V ++ [e]) V.length = e := by rw [hV_get hi]; simp
      have e2 : fg (L ++ [⟨a, b, c, lo, hiq⟩]) V.length = ⟨a, b, c, lo, hiq⟩ := by rw [h.len, fg_get (by simp)]; simp
      rw [e1, e2]
      first
        | exact hx.cast rfl bx
        | exact hy.cast rfl b_y
        | exact hz.cast rfl bz
        | exact hu.cast rfl bu
        | exact hv.cast rfl bv
theorem FsH.add {W : World} {V : List HV} {L : List FG} {k : Nat} {gx1 : Bool} {ax1 : Option Addr} {lx1 : Nat} {cx1 : Nat} {gy1 : Bool} {ay1 : Option Addr} {ly1 : Nat} {cy1 : Nat} {gz1 : Bool} {az1 : Option Addr} {lz1 : Nat} {cz1 : Nat} {gu1 : Bool} {au1 : Option Addr} {lu1 : Nat} {cu1 : Nat} {aau1 : Option Addr} {llu1 : Nat} {ccu1 : Nat} {gv1 : Bool} {av1 : Option Addr} {lv1 : Nat} {cv1 : Nat} {aav1 : Option Addr} {llv1 : Nat} {ccv1 : Nat} {a b c : Int} {lo hi : Rat} {kx ky kz ku kv : Nat} [h : FsH W V L k] [hx : CZ W (.agg #[.bool gx1, .slice ax1 lx1 cx1]) a kx] [hy : CZ W (.agg #[.bool gy1, .slice ay1 ly1 cy1]) b ky] [hz : CZ W (.agg #[.bool gz1, .slice az1 lz1 cz1]) c kz] [hu : CA W (.agg #[.bool gu1, .slice au1 lu1 cu1, .slice aau1 llu1 ccu1]) lo ku] [hv : CA W (.agg #[.bool gv1, .slice av1 lv1 cv1, .slice aav1 llv1 ccv1]) hi kv] (bx : kx ≤ k) (b_y : ky ≤ k) (bz : kz ≤ k) (bu : ku ≤ k) (bv : kv ≤ k) : FsH W (V ++ [⟨gx1, ax1, lx1, cx1, gy1, ay1, ly1, cy1, gz1, az1, lz1, cz1, gu1, au1, lu1, cu1, aau1, llu1, ccu1, gv1, av1, lv1, cv1, aav1, llv1, ccv1⟩]) (L ++ [⟨a, b, c, lo, hi⟩]) k := h.snoc hx hy hz hu hv bx b_y bz bu bv
/-- A list of fragments is returned. -/
def FsHRet (w : World) (L : List FG) (k : Nat) (e : Ending) (w' : World) : Prop := ∃ (a : Option Addr) (c : Nat) (V : List HV), e = .returned (.slice a V.length c) ∧ Sl w' (.slice a V.length c) V.length (rowH V) w' ∧ FsH w' V L k ∧ Below w.heap.size w w'
theorem Calls.cFsHRet {P : Program} {f : FuncId} {args : Array Value} {w : World} {L : List FG} {k : Nat} {K : Ending → World → Prop} (h : Calls P f args w (FsHRet w L k))
    (hK : ∀ w' [Kp1 w w'] (a : Option Addr) (c : Nat) (V : List HV) [Sl w' (.slice a V.length c) V.length (rowH V) w'] [FsH w' V L k], K (.returned (.slice a V.length c)) w') : Calls P f args w K := by
  refine h.mono ?_
  rintro e w' ⟨a, c, V, rfl, hs, hv, hb⟩
  exact @hK w' ⟨hb⟩ a c V hs hv
theorem FsHRet.fin {w w' w0 : World} {a : Option Addr} {c n : Nat} {V : List HV} {L L' : List FG} {k k' : Nat} [b : Kp w w'] [hs : Sl w' (.slice a n c) V.length (rowH V) w0] [hv : FsH w' V L k] (e : L = L') (m : k ≤ k') : FsHRet w L' k' (.returned (.slice a n c)) w' := by
  obtain rfl := hs.len
  subst e
  exact ⟨a, c, V, rfl, hs.here, hv.mono m, b.out⟩
/-- A list of fragments is returned. -/
def FsHEr (w : World) (L : List FG) (k : Nat) (e : Ending) (w' : World) : Prop := ∃ (a : Option Addr) (c : Nat) (V : List HV), e = .returned (.tuple #[.slice a V.length c, .nilIface]) ∧ Sl w' (.slice a V.length c) V.length (rowH V) w' ∧ FsH w' V L k ∧ Below w.heap.size w w'
theorem Calls.cFsHEr {P : Program} {f : FuncId} {args : Array Value} {w : World} {L : List FG} {k : Nat} {K : Ending → World → Prop} (h : Calls P f args w (FsHEr w L k))
    (hK : ∀ w' [Kp1 w w'] (a : Option Addr) (c : Nat) (V : List HV) [Sl w' (.slice a V.length c) V.length (rowH V) w'] [FsH w' V L k], K (.returned (.tuple #[.slice a V.length c, .nilIface])) w') : Calls P f args w K := by
  refine h.mono ?_
  rintro e w' ⟨a, c, V, rfl, hs, hv, hb⟩
  exact @hK w' ⟨hb⟩ a c V hs hv
theorem FsHEr.fin {w w' w0 : World} {a : Option Addr} {c n : Nat} {V : List HV} {L L' : List FG} {k k' : Nat} [b : Kp w w'] [hs : Sl w' (.slice a n c) V.length (rowH V) w0] [hv : FsH w' V L k] (e : L = L') (m : k ≤ k') : FsHEr w L' k' (.returned (.tuple #[.slice a n c, .nilIface])) w' := by
  obtain rfl := hs.len
  subst e
  exact ⟨a, c, V, rfl, hs.here, hv.mono m, b.out⟩
theorem info_hr : (Tryz.prog.info? 160).map (fun i => (i.zero, i.size, i.bytes)) = some (some (.agg #[.bool false, .slice none 0 0, .bool false, .slice none 0 0, .bool false, .slice none 0 0, .bool false, .slice none 0 0, .slice none 0 0, .bool false, .slice none 0 0, .slice none 0 0, .bool false, .bool false]), 14, 216) := by kernel_rfl
@[go_sem] theorem load_K {W w0 : World} {g k : Nat} {V : List HV} [h : At W g (rowH V) w0] (hk : k < V.length) : (loadVar 167 ⟨g, k * 14, none⟩).run Tryz.prog W = .ok (.agg #[.bool (hV V k).gx, .slice (hV V k).ax (hV V k).lx (hV V k).cx, .bool (hV V k).gy, .slice (hV V k).ay (hV V k).ly (hV V k).cy, .bool (hV V k).gz, .slice (hV V k).az (hV V k).lz (hV V k).cz, .bool (hV V k).gu, .slice (hV V k).au (hV V k).lu (hV V k).cu, .slice (hV V k).aau (hV V k).llu (hV V k).ccu, .bool (hV V k).gv, .slice (hV V k).av (hV V k).lv (hV V k).cv, .slice (hV V k).aav (hV V k).llv (hV V k).ccv, .bool false, .bool false]) W :=
  load_off W g (k * 14) 167 (hV V k).l _ Tryz.underlying167 rfl (by kernel_rfl) (fun j hj => at_hV h hk hj)
/-- The cells V read as the fragments of the reference of the list L. -/
class FsK (W : World) (V : List HV) (L : outParam (List FG)) (k : outParam Nat) : Prop where
  len : V.length = L.length
  x : ∀ i, i < V.length → CZ W (.agg #[.bool (hV V i).gx, .slice (hV V i).ax (hV V i).lx (hV V i).cx]) ((fg L i).a) k
  y : ∀ i, i < V.length → CZ W (.agg #[.bool (hV V i).gy, .slice (hV V i).ay (hV V i).ly (hV V i).cy]) ((fg L i).b) k
  z : ∀ i, i < V.length → CZ W (.agg #[.bool (hV V i).gz, .slice (hV V i).az (hV V i).lz (hV V i).cz]) ((fg L i).c) k
  u : ∀ i, i < V.length → CQ W (.agg #[.bool (hV V i).gu, .slice (hV V i).au (hV V i).lu (hV V i).cu, .slice (hV V i).aau (hV V i).llu (hV V i).ccu]) ((fg L i).lo) k
  v : ∀ i, i < V.length → CQ W (.agg #[.bool (hV V i).gv, .slice (hV V i).av (hV V i).lv (hV V i).cv, .slice (hV V i).aav (hV V i).llv (hV V i).ccv]) ((fg L i).hi) k
instance FsK.al {W : World} {V : List HV} {L : List FG} {k : Nat} {o : Obj} [h : FsK W V L k] : FsK (W.alloc o) V L k := ⟨h.len, fun i hi => by have := h.x i hi; infer_instance, fun i hi => by have := h.y i hi; infer_instance, fun i hi => by have := h.z i hi; infer_instance, fun i hi => by have := h.u i hi; infer_instance, fun i hi => by have := h.v i hi; infer_instance⟩
instance FsK.dr {W : World} {V : List HV} {L : List FG} {k : Nat} [h : FsK W V L k] : FsK W.drew V L k := ⟨h.len, fun i hi => by have := h.x i hi; infer_instance, fun i hi => by have := h.y i hi; infer_instance, fun i hi => by have := h.z i hi; infer_instance, fun i hi => by have := h.u i hi; infer_instance, fun i hi => by have := h.v i hi; infer_instance⟩
instance FsK.drN {W : World} {V : List HV} {L : List FG} {k : Nat} {j : Nat} [h : FsK W V L k] : FsK (W.drewN j) V L k := ⟨h.len, fun i hi => by have := h.x i hi; infer_instance, fun i hi => by have := h.y i hi; infer_instance, fun i hi => by have := h.z i hi; infer_instance, fun i hi => by have := h.u i hi; infer_instance, fun i hi => by have := h.v i hi; infer_instance⟩
instance (priority := low) FsK.kp {W W2 : World} {V : List HV} {L : List FG} {k : Nat} [b : Kp1 W W2] [h : FsK W V L k] : FsK W2 V L k := ⟨h.len, fun i hi => by have := h.x i hi; infer_instance, fun i hi => by have := h.y i hi; infer_instance, fun i hi => by have := h.z i hi; infer_instance, fun i hi => by have := h.u i hi; infer_instance, fun i hi => by have := h.v i hi; infer_instance⟩
instance (priority := low) FsK.tp {W W2 : World} {V : List HV} {L : List FG} {k : Nat} {g : Nat} [b : Tp1 W W2 g] [h : FsK W V L k] : FsK W2 V L k := ⟨h.len, fun i hi => by have := h.x i hi; infer_instance, fun i hi => by have := h.y i hi; infer_instance, fun i hi => by have := h.z i hi; infer_instance, fun i hi => by have := h.u i hi; infer_instance, fun i hi => by have := h.v i hi; infer_instance⟩
instance (priority := low) FsK.apn {W W2 : World} {V : List HV} {L : List FG} {k : Nat} [b : Apn W W2] [h : FsK W V L k] : FsK W2 V L k := ⟨h.len, fun i hi => by have := h.x i hi; infer_instance, fun i hi => by have := h.y i hi; infer_instance, fun i hi => by have := h.z i hi; infer_instance, fun i hi => by have := h.u i hi; infer_instance, fun i hi => by have := h.v i hi; infer_instance⟩
instance FsK.st {W : World} {V : List HV} {L : List FG} {k : Nat} {qb ib : Nat} {xv : Value} [b : SoftB W qb] [h : FsK W V L k] : FsK (W.setCell ⟨qb, ib, none⟩ xv) V L k := ⟨h.len, fun i hi => by have := h.x i hi; infer_instance, fun i hi => by have := h.y i hi; infer_instance, fun i hi => by have := h.z i hi; infer_instance, fun i hi => by have := h.u i hi; infer_instance, fun i hi => by have := h.v i hi; infer_instance⟩
instance FsK.ix {W : World} {V : List HV} {L : List FG} {k : Nat} {i : Nat} [h : FsK W V L k] [l : LtN i V.length] : CZ W (.agg #[.bool (hV V i).gx, .slice (hV V i).ax (hV V i).lx (hV V i).cx]) ((fg L i).a) k := h.x i l.out
instance FsK.iy {W : World} {V : List HV} {L : List FG} {k : Nat} {i : Nat} [h : FsK W V L k] [l : LtN i V.length] : CZ W (.agg #[.bool (hV V i).gy, .slice (hV V i).ay (hV V i).ly (hV V i).cy]) ((fg L i).b) k := h.y i l.out
instance FsK.iz {W : World} {V : List HV} {L : List FG} {k : Nat} {i : Nat} [h : FsK W V L k] [l : LtN i V.length] : CZ W (.agg #[.bool (hV V i).gz, .slice (hV V i).az (hV V i).lz (hV V i).cz]) ((fg L i).c) k := h.z i l.out
instance FsK.iu {W : World} {V : List HV} {L : List FG} {k : Nat} {i : Nat} [h : FsK W V L k] [l : LtN i V.length] : CQ W (.agg #[.bool (hV V i).gu, .slice (hV V i).au (hV V i).lu (hV V i).cu, .slice (hV V i).aau (hV V i).llu (hV V i).ccu]) ((fg L i).lo) k := h.u i l.out
instance FsK.iv {W : World} {V : List HV} {L : List FG} {k : Nat} {i : Nat} [h : FsK W V L k] [l : LtN i V.length] : CQ W (.agg #[.bool (hV V i).gv, .slice (hV V i).av (hV V i).lv (hV V i).cv, .slice (hV V i).aav (hV V i).llv (hV V i).ccv]) ((fg L i).hi) k := h.v i l.out
theorem FsK.nil {W : World} {k : Nat} : FsK W [] [] k := ⟨rfl, fun i hi => by simp at hi, fun i hi => by simp at hi, fun i hi => by simp at hi, fun i hi => by simp at hi, fun i hi => by simp at hi⟩
theorem FsK.mono {W : World} {V : List HV} {L : List FG} {k : Nat} {k' : Nat} (h : FsK W V L k) (b : k ≤ k') : FsK W V L k' := ⟨h.len, fun i hi => (h.x i hi).cast rfl b, fun i hi => (h.y i hi).cast rfl b, fun i hi => (h.z i hi).cast rfl b, fun i hi => (h.u i hi).cast rfl b, fun i hi => (h.v i hi).cast rfl b⟩
theorem FsK.snoc {W : World} {V : List HV} {L : List FG} {k : Nat} {e : HV} {a b c : Int} {lo hiq : Rat} {kx ky kz ku kv : Nat} (h : FsK W V L k) (hx : CZ W (.agg #[.bool (e).gx, .slice (e).ax (e).lx (e).cx]) a kx) (hy : CZ W (.agg #[.bool (e).gy, .slice (e).ay (e).ly (e).cy]) b ky) (hz : CZ W (.agg #[.bool (e).gz, .slice (e).az (e).lz (e).cz]) c kz) (hu : CQ W (.agg #[.bool (e).gu, .slice (e).au (e).lu (e).cu, .slice (e).aau (e).llu (e).ccu]) lo ku) (hv : CQ W (.agg #[.bool (e).gv, .slice (e).av (e).lv (e).cv, .slice (e).aav (e).llv (e).ccv]) hiq kv) (bx : kx ≤ k) (b_y : ky ≤ k) (bz : kz ≤ k) (bu : ku ≤ k) (bv : kv ≤ k) : FsK W (V ++ [e]) (L ++ [⟨a, b, c, lo, hiq⟩]) k := by
  refine ⟨by simp [h.len], fun i hi => ?_, fun i hi => ?_, fun i hi => ?_, fun i hi => ?_, fun i hi => ?_⟩
  all_goals
    rcases Nat.lt_or_ge i V.length with hlt | hge
    · have e1 : hV (V ++ [e]) i = hV V i := by rw [hV_get hi, hV_get hlt, List.getElem_append_left hlt]
      have e2 : fg (L ++ [⟨a, b, c, lo, hiq⟩]) i = fg L i := by rw [fg_get (by rw [List.length_append, ← h.len]; omega), fg_get (by rw [← h.len]; exact hlt), List.getElem_append_left (by rw [← h.len]; exact hlt)]
      rw [e1, e2]
      first
        | exact h.x i hlt
        | exact h.y i hlt
        | exact h.z i hlt
        | exact h.u i hlt
        | exact h.v i hlt
    · have hi' : i = V.length := by simp at hi; omega
      subst hi'
      have e1 : hV (V ++ [e]) V.length = e := by rw [hV_get hi]; simp
      have e2 : fg (L ++ [⟨a, b, c, lo, hiq⟩]) V.length = ⟨a, b, c, lo, hiq⟩ := by rw [h.len, fg_get (by simp)]; simp
      rw [e1, e2]
      first
        | exact hx.cast rfl bx
        | exact hy.cast rfl b_y
        | exact hz.cast rfl bz
        | exact hu.cast rfl bu
        | exact hv.cast rfl bv
theorem FsK.add {W : World} {V : List HV} {L : List FG} {k : Nat} {gx1 : Bool} {ax1 : Option Addr} {lx1 : Nat} {cx1 : Nat} {gy1 : Bool} {ay1 : Option Addr} {ly1 : Nat} {cy1 : Nat} {gz1 : Bool} {az1 : Option Addr} {lz1 : Nat} {cz1 : Nat} {gu1 : Bool} {au1 : Option Addr} {lu1 : Nat} {cu1 : Nat} {aau1 : Option Addr} {llu1 : Nat} {ccu1 : Nat} {gv1 : Bool} {av1 : Option Addr} {lv1 : Nat} {cv1 : Nat} {aav1 : Option Addr} {llv1 : Nat} {ccv1 : Nat} {a b c : Int} {lo hi : Rat} {kx ky kz ku kv : Nat} [h : FsK W V L k] [hx : CZ W (.agg #[.bool gx1, .slice ax1 lx1 cx1]) a kx] [hy : CZ W (.agg #[.bool gy1, .slice ay1 ly1 cy1]) b ky] [hz : CZ W (.agg #[.bool gz1, .slice az1 lz1 cz1]) c kz] [hu : CQ W (.agg #[.bool gu1, .slice au1 lu1 cu1, .slice aau1 llu1 ccu1]) lo ku] [hv : CQ W (.agg #[.bool gv1, .slice av1 lv1 cv1, .slice aav1 llv1 ccv1]) hi kv] (bx : kx ≤ k) (b_y : ky ≤ k) (bz : kz ≤ k) (bu : ku ≤ k) (bv : kv ≤ k) : FsK W (V ++ [⟨gx1, ax1, lx1, cx1, gy1, ay1, ly1, cy1, gz1, az1, lz1, cz1, gu1, au1, lu1, cu1, aau1, llu1, ccu1, gv1, av1, lv1, cv1, aav1, llv1, ccv1⟩]) (L ++ [⟨a, b, c, lo, hi⟩]) k := h.snoc hx hy hz hu hv bx b_y bz bu bv
/-- A list of fragments is returned. -/
def FsKRet (w : World) (L : List FG) (k : Nat) (e : Ending) (w' : World) : Prop := ∃ (a : Option Addr) (c : Nat) (V : List HV), e = .returned (.slice a V.length c) ∧ Sl w' (.slice a V.length c) V.length (rowH V) w' ∧ FsK w' V L k ∧ Below w.heap.size w w'
theorem Calls.cFsKRet {P : Program} {f : FuncId} {args : Array Value} {w : World} {L : List FG} {k : Nat} {K : Ending → World → Prop} (h : Calls P f args w (FsKRet w L k))
    (hK : ∀ w' [Kp1 w w'] (a : Option Addr) (c : Nat) (V : List HV) [Sl w' (.slice a V.length c) V.length (rowH V) w'] [FsK w' V L k], K (.returned (.slice a V.length c)) w') : Calls P f args w K := by
  refine h.mono ?_
  rintro e w' ⟨a, c, V, rfl, hs, hv, hb⟩
  exact @hK w' ⟨hb⟩ a c V hs hv
theorem FsKRet.fin {w w' w0 : World} {a : Option Addr} {c n : Nat} {V : List HV} {L L' : List FG} {k k' : Nat} [b : Kp w w'] [hs : Sl w' (.slice a n c) V.length (rowH V) w0] [hv : FsK w' V L k] (e : L = L') (m : k ≤ k') : FsKRet w L' k' (.returned (.slice a n c)) w' := by
  obtain rfl := hs.len
  subst e
  exact ⟨a, c, V, rfl, hs.here, hv.mono m, b.out⟩
/-- A list of fragments is returned. -/
def FsKEr (w : World) (L : List FG) (k : Nat) (e : Ending) (w' : World) : Prop := ∃ (a : Option Addr) (c : Nat) (V : List HV), e = .returned (.tuple #[.slice a V.length c, .nilIface]) ∧ Sl w' (.slice a V.length c) V.length (rowH V) w' ∧ FsK w' V L k ∧ Below w.heap.size w w'
theorem Calls.cFsKEr {P : Program} {f : FuncId} {args : Array Value} {w : World} {L : List FG} {k : Nat} {K : Ending → World → Prop} (h : Calls P f args w (FsKEr w L k))
    (hK : ∀ w' [Kp1 w w'] (a : Option Addr) (c : Nat) (V : List HV) [Sl w' (.slice a V.length c) V.length (rowH V) w'] [FsK w' V L k], K (.returned (.tuple #[.slice a V.length c, .nilIface])) w') : Calls P f args w K := by
  refine h.mono ?_
  rintro e w' ⟨a, c, V, rfl, hs, hv, hb⟩
  exact @hK w' ⟨hb⟩ a c V hs hv
theorem FsKEr.fin {w w' w0 : World} {a : Option Addr} {c n : Nat} {V : List HV} {L L' : List FG} {k k' : Nat} [b : Kp w w'] [hs : Sl w' (.slice a n c) V.length (rowH V) w0] [hv : FsK w' V L k] (e : L = L') (m : k ≤ k') : FsKEr w L' k' (.returned (.tuple #[.slice a n c, .nilIface])) w' := by
  obtain rfl := hs.len
  subst e
  exact ⟨a, c, V, rfl, hs.here, hv.mono m, b.out⟩
theorem info_kr : (Tryz.prog.info? 167).map (fun i => (i.zero, i.size, i.bytes)) = some (some (.agg #[.bool false, .slice none 0 0, .bool false, .slice none 0 0, .bool false, .slice none 0 0, .bool false, .slice none 0 0, .slice none 0 0, .bool false, .slice none 0 0, .slice none 0 0, .bool false, .bool false]), 14, 216) := by kernel_rfl
end Go.Proofs.YtdlnoeegboapkaaGreatDoor

/- Plain laws: the coefficients of lines. No program is in sight here. -/
namespace Go.Proofs.YtdlnoeegboapkaaGreatDoor
theorem rgcd_zero : rgcd 0 0 = 0 := by decide +kernel
/-- The greatest common divisor of multiples. -/
theorem rgcd_mul (x y : Rat) {t : Rat} (ht : 0 < t) : rgcd (x * t) (y * t) = rgcd x y * t := by
  by_cases h : x = 0 ∧ y = 0
  · obtain ⟨rfl, rfl⟩ := h
    rw [Rat.zero_mul, rgcd_zero, Rat.zero_mul]
  · have ht0 : t ≠ 0 := Rat.ne_of_gt ht
    have h' : ¬ (x * t = 0 ∧ y * t = 0) := by
      rintro ⟨h1, h2⟩
      exact h ⟨(Rat.mul_eq_zero.1 h1).resolve_right ht0, (Rat.mul_eq_zero.1 h2).resolve_right ht0⟩
    have p1 := rgcd_pos x y h
    have p2 := rgcd_pos _ _ h'
    have i1 := Rat.mul_inv_cancel _ (Rat.ne_of_gt p1)
    have i2 := Rat.mul_inv_cancel _ (Rat.ne_of_gt p2)
    have q1 := primX_mul x y
    have q2 := primX_mul y x
    have q3 := primX_mul (x * t) (y * t)
    have q4 := primX_mul (y * t) (x * t)
    rw [rgcd_comm] at q2 q4
    have hu := coprime_uniq (prim_gcd _ _ h') (prim_gcd x y h) (t := t * rgcd x y * (rgcd (x * t) (y * t))⁻¹) (mul_ps (mul_ps ht p1) (Rat.inv_pos.2 p2))
      (by rw [q3, q1]; grind) (by rw [q4, q2]; grind)
    rw [hu.1, q1] at q3
    rw [hu.2, q2] at q4
    generalize rgcd (x * t) (y * t) = g' at *
    generalize rgcd x y = g at *
    rcases Classical.em (x = 0) with hx | hx
    · have hy : y ≠ 0 := fun e => h ⟨hx, e⟩
      have : y * (g' - g * t) = 0 := by grind
      rcases Rat.mul_eq_zero.1 this with h1 | h1
      · exact absurd h1 hy
      · grind
    · have : x * (g' - g * t) = 0 := by grind
      rcases Rat.mul_eq_zero.1 this with h1 | h1
      · exact absurd h1 hx
      · grind
theorem rgcd_int (a b : Int) : rgcd (a : Rat) (b : Rat) = (((Nat.gcd a.natAbs b.natAbs : Nat) : Int) : Rat) := by
  rw [rgcd1 (by rfl) (by rfl)]; rfl
/-- The coefficients of the line a x + b y + c = 0. -/
def lnG (a b c : Rat) : Rat := rgcd (rgcd a b) c
def lnK (x a b c : Rat) : Rat := x * (lnG a b c)⁻¹
theorem lnG_pos {a b : Rat} (c : Rat) (h : ¬ (a = 0 ∧ b = 0)) : 0 < lnG a b c := rgcd_pos _ _ (fun e => by have := rgcd_pos a b h; rw [e.1] at this; exact absurd this (by decide))
theorem lnG_mul (a b c : Rat) {t : Rat} (ht : 0 < t) : lnG (a * t) (b * t) (c * t) = lnG a b c * t := by
  unfold lnG; rw [rgcd_mul _ _ ht, rgcd_mul _ _ ht]
theorem lnK_mul (x a b c : Rat) {t : Rat} (ht : 0 < t) : lnK (x * t) (a * t) (b * t) (c * t) = lnK x a b c := by
  unfold lnK; rw [lnG_mul _ _ _ ht, Rat.inv_mul_rev]
  have := Rat.mul_inv_cancel t (Rat.ne_of_gt ht)
  grind
def gcd3 (a b c : Int) : Nat := Nat.gcd (Nat.gcd a.natAbs b.natAbs) c.natAbs
theorem lnG_int (a b c : Int) : lnG (a : Rat) (b : Rat) (c : Rat) = ((gcd3 a b c : Nat) : Int) := by
  unfold lnG gcd3; rw [rgcd_int, rgcd_int]; simp
theorem gcd3_dvd (a b c : Int) : ((gcd3 a b c : Nat) : Int) ∣ a ∧ ((gcd3 a b c : Nat) : Int) ∣ b ∧ ((gcd3 a b c : Nat) : Int) ∣ c := by
  refine ⟨?_, ?_, ?_⟩
  · rw [← Int.natAbs_dvd_natAbs, Int.natAbs_natCast]; exact Nat.dvd_trans (Nat.gcd_dvd_left _ _) (Nat.gcd_dvd_left _ _)
  · rw [← Int.natAbs_dvd_natAbs, Int.natAbs_natCast]; exact Nat.dvd_trans (Nat.gcd_dvd_left _ _) (Nat.gcd_dvd_right _ _)
  · rw [← Int.natAbs_dvd_natAbs, Int.natAbs_natCast]; exact Nat.gcd_dvd_right _ _
theorem gcd3_pos {a b : Int} (c : Int) (h : ¬ (a = 0 ∧ b = 0)) : 0 < gcd3 a b c := by
  unfold gcd3
  rcases Nat.eq_zero_or_pos (Nat.gcd (Nat.gcd a.natAbs b.natAbs) c.natAbs) with e | e
  · have e1 := Nat.eq_zero_of_gcd_eq_zero_left e
    exact absurd ⟨by have := Nat.eq_zero_of_gcd_eq_zero_left e1; omega, by have := Nat.eq_zero_of_gcd_eq_zero_right e1; omega⟩ h
  · exact e
theorem lnK_int {x a b c : Int} (h : ¬ (a = 0 ∧ b = 0)) (hx : ((gcd3 a b c : Nat) : Int) ∣ x) : lnK (x : Rat) (a : Rat) (b : Rat) (c : Rat) = ((x / ((gcd3 a b c : Nat) : Int) : Int) : Rat) := by
  unfold lnK
  rw [lnG_int]
  obtain ⟨k, hk⟩ := hx
  have hp := gcd3_pos c h
  have hz : ((gcd3 a b c : Nat) : Int) ≠ 0 := by omega
  generalize ((gcd3 a b c : Nat) : Int) = g at *
  subst hk
  rw [Int.mul_ediv_cancel_left _ hz]
  have hr : (g : Rat) ≠ 0 := by exact_mod_cast hz
  have := Rat.mul_inv_cancel _ hr
  have e : ((g * k : Int) : Rat) = (g : Rat) * (k : Rat) := by push_cast; rfl
  rw [e]
  grind
/-- The coefficients are coprime. -/
theorem gcd3_one {a b c : Int} (h : ¬ (a = 0 ∧ b = 0)) : gcd3 (a / ((gcd3 a b c : Nat) : Int)) (b / ((gcd3 a b c : Nat) : Int)) (c / ((gcd3 a b c : Nat) : Int)) = 1 := by
  have hp := gcd3_pos c h
  obtain ⟨h1, h2, h3⟩ := gcd3_dvd a b c
  have key : ∀ x : Int, ((gcd3 a b c : Nat) : Int) ∣ x → (x / ((gcd3 a b c : Nat) : Int)).natAbs = x.natAbs / gcd3 a b c := fun x hx => int_div_abs _ _ (by rw [← Int.natAbs_dvd_natAbs, Int.natAbs_natCast] at hx; exact hx)
  have e : gcd3 (a / ((gcd3 a b c : Nat) : Int)) (b / ((gcd3 a b c : Nat) : Int)) (c / ((gcd3 a b c : Nat) : Int)) = Nat.gcd (Nat.gcd (a.natAbs / gcd3 a b c) (b.natAbs / gcd3 a b c)) (c.natAbs / gcd3 a b c) := by
    show Nat.gcd (Nat.gcd _ _) _ = _
    rw [key a h1, key b h2, key c h3]
  rw [e]
  rw [← Int.natAbs_dvd_natAbs, Int.natAbs_natCast] at h1 h2 h3
  rw [Nat.gcd_div h1 h2, Nat.gcd_div (Nat.dvd_gcd h1 h2) h3]
  exact Nat.div_self hp
theorem int_mul_den (x : Rat) : x * (((x.den : Nat) : Int) : Rat) = (x.num : Rat) := by
  have hd : ((x.den : Int) : Rat) ≠ 0 := by have := x.den_nz; exact_mod_cast this
  have h := Rat.mkRat_self x
  rw [Rat.mkRat_eq_div, Rat.div_def] at h
  have i := Rat.mul_inv_cancel _ hd
  have e : ((x.den : Nat) : Rat) = ((x.den : Int) : Rat) := by push_cast; rfl
  rw [e] at h
  generalize ((x.den : Int) : Rat) = d at *
  generalize (x.num : Rat) = n at *
  grind
/-- A multiple of a number's denominator makes it an integer. -/
theorem mulD_int (x : Rat) {m : Nat} (h : x.den ∣ m) : x * ((m : Int) : Rat) = ((x * ((m : Int) : Rat)).num : Rat) := by
  obtain ⟨k, rfl⟩ := h
  have e : x * (((x.den * k : Nat) : Int) : Rat) = ((x.num * (k : Int) : Int) : Rat) := by
    have := int_mul_den x
    have e1 : (((x.den * k : Nat) : Int) : Rat) = (((x.den : Nat) : Int) : Rat) * ((k : Int) : Rat) := by push_cast; rfl
    have e2 : ((x.num * (k : Int) : Int) : Rat) = (x.num : Rat) * ((k : Int) : Rat) := by push_cast; rfl
    rw [e1, e2, ← this]; grind
  rw [e]; rfl
end Go.Proofs.YtdlnoeegboapkaaGreatDoor

/- Valid lines: plain laws of the line through two points, of points on lines, of common points, of the order. No program is in sight here. -/
namespace Go.Proofs.YtdlnoeegboapkaaGreatDoor
/-- Coefficients of a valid line. -/
def LnV (a b c : Int) : Prop := ¬ (a = 0 ∧ b = 0) ∧ gcd3 a b c = 1
theorem LnV.rev {a b c : Int} (h : LnV a b c) : LnV (-a) (-b) (-c) := by
  refine ⟨fun e => h.1 ⟨by omega, by omega⟩, ?_⟩
  unfold gcd3
  rw [Int.natAbs_neg, Int.natAbs_neg, Int.natAbs_neg]
  exact h.2
/-- What lnK gives for coefficients: the integers of a valid line. -/
theorem lnK_valid {a b c : Rat} (h : ¬ (a = 0 ∧ b = 0)) : ∃ A B C : Int, (A : Rat) = lnK a a b c ∧ (B : Rat) = lnK b a b c ∧ (C : Rat) = lnK c a b c ∧ LnV A B C := by
  have hm : (0 : Rat) < (((a.den * b.den * c.den : Nat) : Int) : Rat) := by
    have : 0 < a.den * b.den * c.den := Nat.mul_pos (Nat.mul_pos a.den_pos b.den_pos) c.den_pos
    exact Rat.intCast_pos.2 (by omega)
  have ha := mulD_int a (m := a.den * b.den * c.den) ⟨b.den * c.den, by rw [Nat.mul_assoc]⟩
  have hb := mulD_int b (m := a.den * b.den * c.den) ⟨a.den * c.den, by rw [Nat.mul_comm a.den b.den, Nat.mul_assoc]⟩
  have hc := mulD_int c (m := a.den * b.den * c.den) ⟨a.den * b.den, by rw [Nat.mul_comm]⟩
  generalize (((a.den * b.den * c.den : Nat) : Int) : Rat) = m at *
  generalize (a * m).num = x at *
  generalize (b * m).num = y at *
  generalize (c * m).num = z at *
  have hxy : ¬ (x = 0 ∧ y = 0) := by
    rintro ⟨rfl, rfl⟩
    refine h ⟨?_, ?_⟩
    · rcases Rat.mul_eq_zero.1 (ha.trans rfl) with e | e
      · exact e
      · rw [e] at hm; exact absurd hm (by decide)
    · rcases Rat.mul_eq_zero.1 (hb.trans rfl) with e | e
      · exact e
      · rw [e] at hm; exact absurd hm (by decide)
  have hd := gcd3_dvd x y z
  refine ⟨x / ((gcd3 x y z : Nat) : Int), y / ((gcd3 x y z : Nat) : Int), z / ((gcd3 x y z : Nat) : Int), ?_, ?_, ?_, ?_, gcd3_one hxy⟩
  · rw [← lnK_int hxy hd.1, ← ha, ← hb, ← hc, lnK_mul _ _ _ _ hm]
  · rw [← lnK_int hxy hd.2.1, ← ha, ← hb, ← hc, lnK_mul _ _ _ _ hm]
  · rw [← lnK_int hxy hd.2.2, ← ha, ← hb, ← hc, lnK_mul _ _ _ _ hm]
  · rintro ⟨e1, e2⟩
    have h1 := Int.ediv_mul_cancel hd.1
    have h2 := Int.ediv_mul_cancel hd.2.1
    rw [e1] at h1; rw [e2] at h2
    exact hxy ⟨by rw [← h1]; simp, by rw [← h2]; simp⟩
/-- A valid line is its own normal form. -/
theorem lnK_self {a b c x : Int} (h : LnV a b c) : lnK (x : Rat) (a : Rat) (b : Rat) (c : Rat) = (x : Rat) := by
  have := @lnK_int x a b c h.1 (by rw [h.2]; exact ⟨x, by simp⟩)
  rw [this, h.2]; simp
theorem lnK_pos {a b c x : Int} (h : LnV a b c) {t : Rat} (ht : 0 < t) : lnK ((x : Rat) * t) ((a : Rat) * t) ((b : Rat) * t) ((c : Rat) * t) = (x : Rat) := by
  rw [lnK_mul _ _ _ _ ht, lnK_self h]
theorem sq_ne {a b : Int} (h : ¬ (a = 0 ∧ b = 0)) : (a : Rat) * a + (b : Rat) * b ≠ 0 := by
  have h1 : (a : Rat) * a + (b : Rat) * b = ((a * a + b * b : Int) : Rat) := by simp [Rat.intCast_add, Rat.intCast_mul]
  rw [h1]
  intro e
  have e2 : a * a + b * b = 0 := by exact_mod_cast e
  have p1 : 0 ≤ a * a := by rcases Int.le_total 0 a with h | h; exact Int.mul_nonneg h h; exact Int.mul_nonneg_of_nonpos_of_nonpos h h
  have p2 : 0 ≤ b * b := by rcases Int.le_total 0 b with h | h; exact Int.mul_nonneg h h; exact Int.mul_nonneg_of_nonpos_of_nonpos h h
  have q1 : a * a = 0 := by omega
  have q2 : b * b = 0 := by omega
  exact h ⟨by rcases Int.mul_eq_zero.1 q1 with e | e <;> exact e, by rcases Int.mul_eq_zero.1 q2 with e | e <;> exact e⟩
/-- The base of a line, and its points. -/
def lnF (a b c : Rat) : Rat := -c / (a * a + b * b)
theorem on_line {a b c t : Rat} (h : a * a + b * b ≠ 0) : a * (a * (-c / (a * a + b * b)) + b * t) + b * (b * (-c / (a * a + b * b)) + -a * t) + c = 0 := by grind
theorem par_line {a b c t : Rat} (h : a * a + b * b ≠ 0) : (b * (a * (-c / (a * a + b * b)) + b * t) + -a * (b * (-c / (a * a + b * b)) + -a * t)) / (b * b + -a * -a) = t := by
  have h2 : b * b + -a * -a = a * a + b * b := by grind
  rw [h2]
  grind
theorem meet_one {a b c p q r d : Rat} (h : d ≠ 0) (hd : d = a * q - b * p) : a * ((b * r - c * q) / d) + b * ((c * p - a * r) / d) + c = 0 := by grind
theorem meet_two {a b c p q r d : Rat} (h : d ≠ 0) (hd : d = a * q - b * p) : p * ((b * r - c * q) / d) + q * ((c * p - a * r) / d) + r = 0 := by grind
end Go.Proofs.YtdlnoeegboapkaaGreatDoor

/- Segments on lines of integers: common points, overlap; the edges of a ring, convex rings. Plain facts. -/
namespace Go.Proofs.YtdlnoeegboapkaaGreatDoor
open Go.RowKit
set_option linter.unusedVariables false

def parL (a b x y : Rat) : Rat := (b * x + -a * y) / (b * b + -a * -a)
def atLx (a b c t : Rat) : Rat := a * (-c / (a * a + b * b)) + b * t
def atLy (a b c t : Rat) : Rat := b * (-c / (a * a + b * b)) + -a * t
def onL (a b c x y : Rat) : Prop := a * x + b * y + c = 0
theorem at_on {a b c : Rat} (t : Rat) (h : a * a + b * b ≠ 0) : onL a b c (atLx a b c t) (atLy a b c t) := on_line h
theorem at_par {a b c : Rat} (t : Rat) (h : a * a + b * b ≠ 0) : parL a b (atLx a b c t) (atLy a b c t) = t := par_line h
theorem par_at {a b c x y : Rat} (h : a * a + b * b ≠ 0) (ho : onL a b c x y) : atLx a b c (parL a b x y) = x ∧ atLy a b c (parL a b x y) = y := by
  unfold onL at ho
  unfold atLx atLy parL
  have h2 : b * b + -a * -a = a * a + b * b := by grind
  rw [h2]
  generalize hN : a * a + b * b = N at h
  have hi := Rat.mul_inv_cancel N h
  rw [Rat.div_def, Rat.div_def]
  generalize N⁻¹ = M at hi
  have hc : c = -(a * x + b * y) := by grind
  subst hc; subst hN
  constructor
  · have : a * (- -(a * x + b * y) * M) + b * ((b * x + -a * y) * M) = x * ((a * a + b * b) * M) := by grind
    rw [this, hi]; grind
  · have : b * (- -(a * x + b * y) * M) + -a * ((b * x + -a * y) * M) = y * ((a * a + b * b) * M) := by grind
    rw [this, hi]; grind
theorem par_inj {a b c x y x' y' : Rat} (h : a * a + b * b ≠ 0) (h1 : onL a b c x y) (h2 : onL a b c x' y') (e : parL a b x y = parL a b x' y') : x = x' ∧ y = y' := by
  have e1 := par_at h h1
  have e2 := par_at h h2
  rw [e] at e1
  exact ⟨e1.1.symm.trans e2.1, e1.2.symm.trans e2.2⟩
theorem par_neg {a b x y : Rat} : parL (-a) (-b) x y = -parL a b x y := by
  unfold parL
  have h1 : -b * -b + - -a * - -a = b * b + -a * -a := by grind
  rw [h1, Rat.div_def, Rat.div_def]; grind
/-- A valid segment. -/
structure FGV (f : FG) : Prop where
  v : LnV f.a f.b f.c
  lt : f.lo < f.hi
def OnF (f : FG) (p : Rat × Rat) : Prop := onL f.a f.b f.c p.1 p.2 ∧ f.lo ≤ parL f.a f.b p.1 p.2 ∧ parL f.a f.b p.1 p.2 ≤ f.hi
def Com (f g : FG) (p : Rat × Rat) : Prop := OnF f p ∧ OnF g p
/-- They have more than one point in common. -/
def OvP (f g : FG) : Prop := ∃ p q, p ≠ q ∧ Com f g p ∧ Com f g q
/-- They have just the point p in common. -/
def MtP (f g : FG) (p : Rat × Rat) : Prop := Com f g p ∧ ∀ q, Com f g q → q = p
theorem Com.symm {f g : FG} {p : Rat × Rat} (h : Com f g p) : Com g f p := ⟨h.2, h.1⟩
theorem OvP.symm {f g : FG} (h : OvP f g) : OvP g f := by obtain ⟨p, q, h1, h2, h3⟩ := h; exact ⟨p, q, h1, h2.symm, h3.symm⟩
theorem MtP.symm {f g : FG} {p : Rat × Rat} (h : MtP f g p) : MtP g f p := ⟨h.1.symm, fun q hq => h.2 q hq.symm⟩
theorem MtP.uniq {f g : FG} {p q : Rat × Rat} (h : MtP f g p) (h2 : MtP f g q) : p = q := h2.2 p h.1
theorem MtP.not {f g : FG} {p : Rat × Rat} (h : MtP f g p) : ¬ OvP f g := by
  rintro ⟨a, b, hne, h1, h2⟩
  exact hne ((h.2 a h1).trans (h.2 b h2).symm)
def atF (f : FG) (t : Rat) : Rat × Rat := (atLx f.a f.b f.c t, atLy f.a f.b f.c t)
theorem FGV.ne {f : FG} (h : FGV f) : (f.a : Rat) * f.a + (f.b : Rat) * f.b ≠ 0 := sq_ne h.v.1
/-- The points of g lie on the line of f, from lo to hi there. -/
def OntoP (f g : FG) (lo hi : Rat) : Prop := ∀ p, OnF g p ↔ onL f.a f.b f.c p.1 p.2 ∧ lo ≤ parL f.a f.b p.1 p.2 ∧ parL f.a f.b p.1 p.2 ≤ hi
section
variable {f g : FG} {lo hi : Rat}
theorem OntoP.same (e : (f.a = g.a ∧ f.b = g.b ∧ f.c = g.c)) : OntoP f g g.lo g.hi := fun p => by
  unfold OnF
  rw [e.1, e.2.1, e.2.2]
theorem OntoP.opp (e : (f.a = -g.a ∧ f.b = -g.b ∧ f.c = -g.c)) : OntoP f g (-g.hi) (-g.lo) := fun p => by
  unfold OnF onL
  rw [e.1, e.2.1, e.2.2, Rat.intCast_neg, Rat.intCast_neg, Rat.intCast_neg, par_neg]
  constructor
  · rintro ⟨h1, h2, h3⟩; exact ⟨by grind, by grind, by grind⟩
  · rintro ⟨h1, h2, h3⟩; exact ⟨by grind, by grind, by grind⟩
theorem OntoP.com (h : OntoP f g lo hi) {p : Rat × Rat} : Com f g p ↔ onL f.a f.b f.c p.1 p.2 ∧ (f.lo ≤ parL f.a f.b p.1 p.2 ∧ parL f.a f.b p.1 p.2 ≤ f.hi) ∧ lo ≤ parL f.a f.b p.1 p.2 ∧ parL f.a f.b p.1 p.2 ≤ hi := by
  unfold Com; rw [h p]; unfold OnF
  constructor
  · rintro ⟨⟨h1, h2⟩, h3, h4⟩; exact ⟨h1, h2, h4⟩
  · rintro ⟨h1, h2, h3⟩; exact ⟨⟨h1, h2⟩, h1, h3⟩
theorem OntoP.at_com (hf : FGV f) (h : OntoP f g lo hi) {t : Rat} (h1 : f.lo ≤ t ∧ t ≤ f.hi) (h2 : lo ≤ t ∧ t ≤ hi) : Com f g (atF f t) := by
  rw [h.com]
  refine ⟨at_on t hf.ne, ?_⟩
  show (_ ≤ parL _ _ (atLx _ _ _ t) (atLy _ _ _ t) ∧ _) ∧ _
  simp only [atF]
  rw [at_par t hf.ne]
  exact ⟨h1, h2⟩
theorem atF_inj (hf : FGV f) {s t : Rat} (e : atF f s = atF f t) : s = t := by
  have h1 := at_par (c := (f.c : Rat)) s hf.ne
  have h2 := at_par (c := (f.c : Rat)) t hf.ne
  have e1 : atLx f.a f.b f.c s = atLx f.a f.b f.c t := congrArg Prod.fst e
  have e2 : atLy f.a f.b f.c s = atLy f.a f.b f.c t := congrArg Prod.snd e
  rw [e1, e2, h2] at h1
  exact h1.symm
theorem OntoP.ov (hf : FGV f) (hl : lo < hi) (h : OntoP f g lo hi) : OvP f g ↔ f.lo < hi ∧ lo < f.hi := by
  constructor
  · rintro ⟨p, q, hne, h1, h2⟩
    rw [h.com] at h1 h2
    obtain ⟨o1, a1, b1⟩ := h1
    obtain ⟨o2, a2, b2⟩ := h2
    have hd : parL f.a f.b p.1 p.2 ≠ parL f.a f.b q.1 q.2 := fun e => hne (Prod.ext_iff.2 (par_inj hf.ne o1 o2 e))
    grind
  · rintro ⟨h1, h2⟩
    have hlt := hf.lt
    rcases Classical.em (f.lo ≤ lo) with h3 | h3
    · rcases Classical.em (f.hi ≤ hi) with h4 | h4
      · exact ⟨atF f lo, atF f f.hi, fun e => by have := atF_inj hf e; grind, h.at_com hf (by grind) (by grind), h.at_com hf (by grind) (by grind)⟩
      · exact ⟨atF f lo, atF f hi, fun e => by have := atF_inj hf e; grind, h.at_com hf (by grind) (by grind), h.at_com hf (by grind) (by grind)⟩
    · rcases Classical.em (f.hi ≤ hi) with h4 | h4
      · exact ⟨atF f f.lo, atF f f.hi, fun e => by have := atF_inj hf e; grind, h.at_com hf (by grind) (by grind), h.at_com hf (by grind) (by grind)⟩
      · exact ⟨atF f f.lo, atF f hi, fun e => by have := atF_inj hf e; grind, h.at_com hf (by grind) (by grind), h.at_com hf (by grind) (by grind)⟩
theorem OntoP.one (hf : FGV f) (h : OntoP f g lo hi) {t : Rat} (h1 : f.lo ≤ t ∧ t ≤ f.hi) (h2 : lo ≤ t ∧ t ≤ hi) (h3 : ∀ s, f.lo ≤ s → s ≤ f.hi → lo ≤ s → s ≤ hi → s = t) : MtP f g (atF f t) := by
  refine ⟨h.at_com hf h1 h2, fun q hq => ?_⟩
  rw [h.com] at hq
  obtain ⟨o, a1, b1⟩ := hq
  have e := h3 _ a1.1 a1.2 b1.1 b1.2
  have := par_at hf.ne o
  rw [e] at this
  exact Prod.ext_iff.2 ⟨this.1.symm, this.2.symm⟩
theorem OntoP.hi_lo (hf : FGV f) (hl : lo < hi) (h : OntoP f g lo hi) (e : f.hi = lo) : MtP f g (atF f f.hi) :=
  h.one hf (by have := hf.lt; grind) (by grind) (fun s _ _ _ _ => by grind)
theorem OntoP.lo_hi (hf : FGV f) (hl : lo < hi) (h : OntoP f g lo hi) (e : f.lo = hi) : MtP f g (atF f f.lo) :=
  h.one hf (by have := hf.lt; grind) (by grind) (fun s _ _ _ _ => by grind)
theorem OntoP.no (hf : FGV f) (hl : lo < hi) (h : OntoP f g lo hi) (e1 : f.hi ≠ lo) (e2 : f.lo ≠ hi) {p : Rat × Rat} : ¬ MtP f g p := by
  intro hm
  have hn := hm.not
  rw [h.ov hf hl] at hn
  have hc := hm.1
  rw [h.com] at hc
  have := hf.lt
  grind
end
/-! ### Lines with different points -/
theorem lines_meet {f g : FG} (h : ((f.a : Rat) * g.b - f.b * g.a) ≠ 0) {p q : Rat × Rat} (h1 : Com f g p) (h2 : Com f g q) : p = q := by
  obtain ⟨⟨a1, _⟩, ⟨b1, _⟩⟩ := h1
  obtain ⟨⟨a2, _⟩, ⟨b2, _⟩⟩ := h2
  unfold onL at a1 a2 b1 b2
  have e1 : ((f.a : Rat) * g.b - f.b * g.a) * (p.1 - q.1) = 0 := by grind
  have e2 : ((f.a : Rat) * g.b - f.b * g.a) * (p.2 - q.2) = 0 := by grind
  have e3 := (Rat.mul_eq_zero.1 e1).resolve_left h
  have e4 := (Rat.mul_eq_zero.1 e2).resolve_left h
  exact Prod.ext_iff.2 ⟨by grind, by grind⟩
theorem lines_noOv {f g : FG} (h : ((f.a : Rat) * g.b - f.b * g.a) ≠ 0) : ¬ OvP f g := by
  rintro ⟨p, q, hne, h1, h2⟩
  exact hne (lines_meet h h1 h2)
theorem lines_mt {f g : FG} (h : ((f.a : Rat) * g.b - f.b * g.a) ≠ 0) {p : Rat × Rat} (hc : Com f g p) : MtP f g p := ⟨hc, fun q hq => lines_meet h hq hc⟩
theorem mul_eq_cases {k : Rat} {a b c a' b' c' : Int} (hv : LnV a b c) (hw : LnV a' b' c') (hk : k ≠ 0) (e1 : (a : Rat) = k * a') (e2 : (b : Rat) = k * b') (e3 : (c : Rat) = k * c') : (a = a' ∧ b = b' ∧ c = c') ∨ (a = -a' ∧ b = -b' ∧ c = -c') := by
  rcases Classical.em (0 < k) with hp | hp
  · left
    have h : ∀ x : Int, (x : Rat) = lnK (x : Rat) a b c := fun x => (lnK_self hv).symm
    have h1 := lnK_pos (x := a') hw hp
    have h2 := lnK_pos (x := b') hw hp
    have h3 := lnK_pos (x := c') hw hp
    have c1 : (a' : Rat) * k = a := by grind
    have c2 : (b' : Rat) * k = b := by grind
    have c3 : (c' : Rat) * k = c := by grind
    rw [c1, c2, c3] at h1 h2 h3
    rw [lnK_self hv] at h1 h2 h3
    exact ⟨by exact_mod_cast h1, by exact_mod_cast h2, by exact_mod_cast h3⟩
  · right
    have hp' : 0 < -k := by grind
    have h1 := lnK_pos (x := -a') hw.rev hp'
    have h2 := lnK_pos (x := -b') hw.rev hp'
    have h3 := lnK_pos (x := -c') hw.rev hp'
    have c1 : ((-a' : Int) : Rat) * -k = a := by rw [Rat.intCast_neg]; grind
    have c2 : ((-b' : Int) : Rat) * -k = b := by rw [Rat.intCast_neg]; grind
    have c3 : ((-c' : Int) : Rat) * -k = c := by rw [Rat.intCast_neg]; grind
    rw [c1, c2, c3] at h1 h2 h3
    rw [lnK_self hv] at h1 h2 h3
    exact ⟨by exact_mod_cast h1, by exact_mod_cast h2, by exact_mod_cast h3⟩
/-- Parallel lines with a common point are the same, or reversed. -/
theorem par_same {f g : FG} (hf : FGV f) (hg : FGV g) (h : ((f.a : Rat) * g.b - f.b * g.a) = 0) {p : Rat × Rat} (hc : Com f g p) : (f.a = g.a ∧ f.b = g.b ∧ f.c = g.c) ∨ (f.a = -g.a ∧ f.b = -g.b ∧ f.c = -g.c) := by
  obtain ⟨⟨a1, _⟩, ⟨b1, _⟩⟩ := hc
  unfold onL at a1 b1
  have hn := hg.ne
  have hi := Rat.mul_inv_cancel _ hn
  generalize hM : ((g.a : Rat) * g.a + (g.b : Rat) * g.b)⁻¹ = M at hi
  have ka : (f.a : Rat) = (((f.a : Rat) * g.a + (f.b : Rat) * g.b) * M) * g.a := by
    have : (((f.a : Rat) * g.a + (f.b : Rat) * g.b) * M) * g.a = (f.a : Rat) * (((g.a : Rat) * g.a + (g.b : Rat) * g.b) * M) := by grind
    rw [this, hi]; grind
  have kb : (f.b : Rat) = (((f.a : Rat) * g.a + (f.b : Rat) * g.b) * M) * g.b := by
    have : (((f.a : Rat) * g.a + (f.b : Rat) * g.b) * M) * g.b = (f.b : Rat) * (((g.a : Rat) * g.a + (g.b : Rat) * g.b) * M) := by grind
    rw [this, hi]; grind
  refine mul_eq_cases (k := ((f.a : Rat) * g.a + (f.b : Rat) * g.b) * M) hf.v hg.v (fun e => ?_) ka kb (by grind)
  rw [e] at ka kb
  exact hf.v.1 ⟨by have : (f.a : Rat) = ((0 : Int) : Rat) := by rw [ka]; simp
                   exact_mod_cast this, by have : (f.b : Rat) = ((0 : Int) : Rat) := by rw [kb]; simp
                                           exact_mod_cast this⟩
theorem OnF.iff {f : FG} {p : Rat × Rat} : OnF f p ↔ onL f.a f.b f.c p.1 p.2 ∧ f.lo ≤ parL f.a f.b p.1 p.2 ∧ parL f.a f.b p.1 p.2 ≤ f.hi := Iff.rfl
end Go.Proofs.YtdlnoeegboapkaaGreatDoor
