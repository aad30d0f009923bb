/-
  Texts of this claim, joined: Fs, Sgm, Line, Inv, Ln2, Ln3, Ln4, Ln5, Ln6, Ln7, Ln13, Sge.
-/
import Derived.Test.YtdlnoeegboapkaaGreatDoorCI
import Derived.Test.YtdlnoeegboapkaaGreatDoorCJ
import Derived.Test.YtdlnoeegboapkaaGreatDoorCF
import Derived.Deep.CutRange
namespace Go.Proofs.YtdlnoeegboapkaaGreatDoor
open Go.RowKit
set_option linter.unusedSimpArgs false
set_option linter.unusedVariables false
set_option maxHeartbeats 40000000
set_option maxRecDepth 100000
set_option synthInstance.maxHeartbeats 1000000
set_option synthInstance.maxSize 100000
section
structure FG where
  a : Int
  b : Int
  c : Int
  lo : Rat
  hi : Rat
def fg (L : List FG) (i : Nat) : FG := L.getD i ⟨0, 0, 0, 0, 0⟩
theorem fg_get {L : List FG} {i : Nat} (h : i < L.length) : fg L i = L[i] := getD_lt h
structure GV where
  nx : Int
  dx : Int
  px : Option Addr
  ny : Int
  dy : Int
  py : Option Addr
  nz : Int
  dz : Int
  pz : Option Addr
  nu : Int
  du : Int
  pu : Option Addr
  nv : Int
  dv : Int
  pv : Option Addr
def GV.l (v : GV) : List Value := [.int .i64 v.nx, .int .i64 v.dx, .pointer v.px, .int .i64 v.ny, .int .i64 v.dy, .pointer v.py, .int .i64 v.nz, .int .i64 v.dz, .pointer v.pz, .int .i64 v.nu, .int .i64 v.du, .pointer v.pu, .int .i64 v.nv, .int .i64 v.dv, .pointer v.pv, .bool false, .bool false]
theorem GV.len (v : GV) : v.l.length = 17 := rfl
theorem GV.one (v : GV) : ∀ u ∈ v.l, u.oneCell' = true := by
  intro u hu; simp only [GV.l, List.mem_cons, List.not_mem_nil, or_false] at hu; rcases hu with rfl | rfl | rfl | rfl | rfl | rfl | rfl | rfl | rfl | rfl | rfl | rfl | rfl | rfl | rfl | rfl | rfl <;> rfl
theorem GV.nd (v : GV) : ∀ u ∈ v.l, isDigit32 u = false := by
  intro u hu; simp only [GV.l, List.mem_cons, List.not_mem_nil, or_false] at hu; rcases hu with rfl | rfl | rfl | rfl | rfl | rfl | rfl | rfl | rfl | rfl | rfl | rfl | rfl | rfl | rfl | rfl | rfl <;> rfl
def rowG (V : List GV) : List Value := V.flatMap GV.l
theorem rowG_snoc (V : List GV) (a : GV) : rowG (V ++ [a]) = rowG V ++ a.l := flat_snoc _ _ _
theorem rowG_nd (V : List GV) : ∀ u ∈ rowG V, isDigit32 u = false := flat_nd GV.nd V
def gV (V : List GV) (i : Nat) : GV := V.getD i ⟨0, 0, none, 0, 0, none, 0, 0, none, 0, 0, none, 0, 0, none⟩
theorem gV_get {V : List GV} {i : Nat} (h : i < V.length) : gV V i = V[i] := getD_lt h
theorem at_gV {W w0 : World} {g k j : Nat} {V : List GV} (h : At W g (rowG V) w0) (hk : k < V.length) (hj : j < 17) : W.cell? ⟨g, k * 17 + j, none⟩ = some ((gV V k).l[j]'hj) := by
  rw [gV_get hk]
  exact h.out _ _ (by rw [rowG, flat_get GV.len V k j hk hj]; exact List.getElem?_eq_getElem (l := V[k].l) hj)
@[go_sem] theorem load_G {W w0 : World} {g k : Nat} {V : List GV} [h : At W g (rowG V) w0] (hk : k < V.length) : (loadVar 182 ⟨g, k * 17, none⟩).run Tryz.prog W = .ok (.agg #[.int .i64 (gV V k).nx, .int .i64 (gV V k).dx, .pointer (gV V k).px, .int .i64 (gV V k).ny, .int .i64 (gV V k).dy, .pointer (gV V k).py, .int .i64 (gV V k).nz, .int .i64 (gV V k).dz, .pointer (gV V k).pz, .int .i64 (gV V k).nu, .int .i64 (gV V k).du, .pointer (gV V k).pu, .int .i64 (gV V k).nv, .int .i64 (gV V k).dv, .pointer (gV V k).pv, .bool false, .bool false]) W :=
  load_off W g (k * 17) 182 (gV V k).l _ Tryz.underlying182 rfl (by kernel_rfl) (fun j hj => at_gV h hk hj)
class FsG (W : World) (V : List GV) (L : outParam (List FG)) (k : outParam Nat) : Prop where
  len : V.length = L.length
  x : ∀ i, i < V.length → CF W (.agg #[.int .i64 (gV V i).nx, .int .i64 (gV V i).dx, .pointer (gV V i).px]) (((fg L i).a : Rat)) k
  y : ∀ i, i < V.length → CF W (.agg #[.int .i64 (gV V i).ny, .int .i64 (gV V i).dy, .pointer (gV V i).py]) (((fg L i).b : Rat)) k
  z : ∀ i, i < V.length → CF W (.agg #[.int .i64 (gV V i).nz, .int .i64 (gV V i).dz, .pointer (gV V i).pz]) (((fg L i).c : Rat)) k
  u : ∀ i, i < V.length → CF W (.agg #[.int .i64 (gV V i).nu, .int .i64 (gV V i).du, .pointer (gV V i).pu]) ((fg L i).lo) k
  v : ∀ i, i < V.length → CF W (.agg #[.int .i64 (gV V i).nv, .int .i64 (gV V i).dv, .pointer (gV V i).pv]) ((fg L i).hi) k
instance FsG.al {W : World} {V : List GV} {L : List FG} {k : Nat} {o : Obj} [h : FsG W V L k] : FsG (W.alloc o) V L k := ⟨h.len, fun i hi => by have := h.x i hi; infer_instance, fun i hi => by have := h.y i hi; infer_instance, fun i hi => by have := h.z i hi; infer_instance, fun i hi => by have := h.u i hi; infer_instance, fun i hi => by have := h.v i hi; infer_instance⟩
instance (priority := low) FsG.kp {W W2 : World} {V : List GV} {L : List FG} {k : Nat} [b : Kp1 W W2] [h : FsG W V L k] : FsG W2 V L k := ⟨h.len, fun i hi => by have := h.x i hi; infer_instance, fun i hi => by have := h.y i hi; infer_instance, fun i hi => by have := h.z i hi; infer_instance, fun i hi => by have := h.u i hi; infer_instance, fun i hi => by have := h.v i hi; infer_instance⟩
instance (priority := low) FsG.apn {W W2 : World} {V : List GV} {L : List FG} {k : Nat} [b : Apn W W2] [h : FsG W V L k] : FsG W2 V L k := ⟨h.len, fun i hi => by have := h.x i hi; infer_instance, fun i hi => by have := h.y i hi; infer_instance, fun i hi => by have := h.z i hi; infer_instance, fun i hi => by have := h.u i hi; infer_instance, fun i hi => by have := h.v i hi; infer_instance⟩
instance FsG.st {W : World} {V : List GV} {L : List FG} {k : Nat} {qb ib : Nat} {xv : Value} [b : SoftB W qb] [h : FsG W V L k] : FsG (W.setCell ⟨qb, ib, none⟩ xv) V L k := ⟨h.len, fun i hi => by have := h.x i hi; infer_instance, fun i hi => by have := h.y i hi; infer_instance, fun i hi => by have := h.z i hi; infer_instance, fun i hi => by have := h.u i hi; infer_instance, fun i hi => by have := h.v i hi; infer_instance⟩
instance FsG.ix {W : World} {V : List GV} {L : List FG} {k : Nat} {i : Nat} [h : FsG W V L k] [l : LtN i V.length] : CF W (.agg #[.int .i64 (gV V i).nx, .int .i64 (gV V i).dx, .pointer (gV V i).px]) (((fg L i).a : Rat)) k := h.x i l.out
instance FsG.iy {W : World} {V : List GV} {L : List FG} {k : Nat} {i : Nat} [h : FsG W V L k] [l : LtN i V.length] : CF W (.agg #[.int .i64 (gV V i).ny, .int .i64 (gV V i).dy, .pointer (gV V i).py]) (((fg L i).b : Rat)) k := h.y i l.out
instance FsG.iz {W : World} {V : List GV} {L : List FG} {k : Nat} {i : Nat} [h : FsG W V L k] [l : LtN i V.length] : CF W (.agg #[.int .i64 (gV V i).nz, .int .i64 (gV V i).dz, .pointer (gV V i).pz]) (((fg L i).c : Rat)) k := h.z i l.out
instance FsG.iu {W : World} {V : List GV} {L : List FG} {k : Nat} {i : Nat} [h : FsG W V L k] [l : LtN i V.length] : CF W (.agg #[.int .i64 (gV V i).nu, .int .i64 (gV V i).du, .pointer (gV V i).pu]) ((fg L i).lo) k := h.u i l.out
instance FsG.iv {W : World} {V : List GV} {L : List FG} {k : Nat} {i : Nat} [h : FsG W V L k] [l : LtN i V.length] : CF W (.agg #[.int .i64 (gV V i).nv, .int .i64 (gV V i).dv, .pointer (gV V i).pv]) ((fg L i).hi) k := h.v i l.out
theorem FsG.nil {W : World} {k : Nat} : FsG W [] [] k := ⟨rfl, fun i hi => by simp at hi, fun i hi => by simp at hi, fun i hi => by simp at hi, fun i hi => by simp at hi, fun i hi => by simp at hi⟩
theorem FsG.mono {W : World} {V : List GV} {L : List FG} {k : Nat} {k' : Nat} (h : FsG W V L k) (b : k ≤ k') : FsG W V L k' := ⟨h.len, fun i hi => (h.x i hi).cast rfl b, fun i hi => (h.y i hi).cast rfl b, fun i hi => (h.z i hi).cast rfl b, fun i hi => (h.u i hi).cast rfl b, fun i hi => (h.v i hi).cast rfl b⟩
theorem FsG.snoc {W : World} {V : List GV} {L : List FG} {k : Nat} {e : GV} {a b c : Int} {lo hiq : Rat} {kx ky kz ku kv : Nat} (h : FsG W V L k) (hx : CF W (.agg #[.int .i64 (e).nx, .int .i64 (e).dx, .pointer (e).px]) (a : Rat) kx) (hy : CF W (.agg #[.int .i64 (e).ny, .int .i64 (e).dy, .pointer (e).py]) (b : Rat) ky) (hz : CF W (.agg #[.int .i64 (e).nz, .int .i64 (e).dz, .pointer (e).pz]) (c : Rat) kz) (hu : CF W (.agg #[.int .i64 (e).nu, .int .i64 (e).du, .pointer (e).pu]) lo ku) (hv : CF W (.agg #[.int .i64 (e).nv, .int .i64 (e).dv, .pointer (e).pv]) hiq kv) (bx : kx ≤ k) (b_y : ky ≤ k) (bz : kz ≤ k) (bu : ku ≤ k) (bv : kv ≤ k) : FsG W (V ++ [e]) (L ++ [⟨a, b, c, lo, hiq⟩]) k := by
  refine ⟨by simp [h.len], fun i hi => ?_, fun i hi => ?_, fun i hi => ?_, fun i hi => ?_, fun i hi => ?_⟩
  all_goals
    rcases Nat.lt_or_ge i V.length with hlt | hge
    · have e1 : gV (V ++ [e]) i = gV V i := by rw [gV_get hi, gV_get hlt, List.getElem_append_left hlt]
      have e2 : fg (L ++ [⟨a, b, c, lo, hiq⟩]) i = fg L i := by rw [fg_get (by rw [List.length_append, ← h.len]; omega), fg_get (by rw [← h.len]; exact hlt), List.getElem_append_left (by rw [← h.len]; exact hlt)]
      rw [e1, e2]
      first
        | exact h.x i hlt
        | exact h.y i hlt
        | exact h.z i hlt
        | exact h.u i hlt
        | exact h.v i hlt
    · have hi' : i = V.length := by simp at hi; omega
      subst hi'
      have e1 : gV (V ++ [e]) V.length = e := by rw [gV_get hi]; simp
      have e2 : fg (L ++ [⟨a, b, c, lo, hiq⟩]) V.length = ⟨a, b, c, lo, hiq⟩ := by rw [h.len, fg_get (by simp)]; simp
      rw [e1, e2]
      first
        | exact hx.cast rfl bx
        | exact hy.cast rfl b_y
        | exact hz.cast rfl bz
        | exact hu.cast rfl bu
        | exact hv.cast rfl bv
theorem FsG.add {W : World} {V : List GV} {L : List FG} {k : Nat} {nx1 : Int} {dx1 : Int} {px1 : Option Addr} {ny1 : Int} {dy1 : Int} {py1 : Option Addr} {nz1 : Int} {dz1 : Int} {pz1 : Option Addr} {nu1 : Int} {du1 : Int} {pu1 : Option Addr} {nv1 : Int} {dv1 : Int} {pv1 : Option Addr} {a b c : Int} {lo hi : Rat} {kx ky kz ku kv : Nat} [h : FsG W V L k] [hx : CF W (.agg #[.int .i64 nx1, .int .i64 dx1, .pointer px1]) (a : Rat) kx] [hy : CF W (.agg #[.int .i64 ny1, .int .i64 dy1, .pointer py1]) (b : Rat) ky] [hz : CF W (.agg #[.int .i64 nz1, .int .i64 dz1, .pointer pz1]) (c : Rat) kz] [hu : CF W (.agg #[.int .i64 nu1, .int .i64 du1, .pointer pu1]) lo ku] [hv : CF W (.agg #[.int .i64 nv1, .int .i64 dv1, .pointer pv1]) hi kv] (bx : kx ≤ k) (b_y : ky ≤ k) (bz : kz ≤ k) (bu : ku ≤ k) (bv : kv ≤ k) : FsG W (V ++ [⟨nx1, dx1, px1, ny1, dy1, py1, nz1, dz1, pz1, nu1, du1, pu1, nv1, dv1, pv1⟩]) (L ++ [⟨a, b, c, lo, hi⟩]) k := h.snoc hx hy hz hu hv bx b_y bz bu bv
def FsGRet (w : World) (L : List FG) (k : Nat) (e : Ending) (w' : World) : Prop := ∃ (a : Option Addr) (c : Nat) (V : List GV), e = .returned (.slice a V.length c) ∧ Sl w' (.slice a V.length c) V.length (rowG V) w' ∧ FsG w' V L k ∧ Below w.heap.size w w'
theorem Calls.cFsGRet {P : Program} {f : FuncId} {args : Array Value} {w : World} {L : List FG} {k : Nat} {K : Ending → World → Prop} (h : Calls P f args w (FsGRet w L k))
    (hK : ∀ w' [Kp1 w w'] (a : Option Addr) (c : Nat) (V : List GV) [Sl w' (.slice a V.length c) V.length (rowG V) w'] [FsG w' V L k], K (.returned (.slice a V.length c)) w') : Calls P f args w K := by
  refine h.mono ?_
  rintro e w' ⟨a, c, V, rfl, hs, hv, hb⟩
  exact @hK w' ⟨hb⟩ a c V hs hv
theorem FsGRet.fin {w w' w0 : World} {a : Option Addr} {c n : Nat} {V : List GV} {L L' : List FG} {k k' : Nat} [b : Kp w w'] [hs : Sl w' (.slice a n c) V.length (rowG V) w0] [hv : FsG w' V L k] (e : L = L') (m : k ≤ k') : FsGRet w L' k' (.returned (.slice a n c)) w' := by
  obtain rfl := hs.len; subst e; exact ⟨a, c, V, rfl, hs.here, hv.mono m, b.out⟩
theorem info_gr : (Tryz.prog.info? 182).map (fun i => (i.zero, i.size, i.bytes)) = some (some (.agg #[.int .i64 0, .int .i64 0, .pointer none, .int .i64 0, .int .i64 0, .pointer none, .int .i64 0, .int .i64 0, .pointer none, .int .i64 0, .int .i64 0, .pointer none, .int .i64 0, .int .i64 0, .pointer none, .bool false, .bool false]), 17, 128) := by kernel_rfl
structure HV where
  gx : Bool
  ax : Option Addr
  lx : Nat
  cx : Nat
  gy : Bool
  ay : Option Addr
  ly : Nat
  cy : Nat
  gz : Bool
  az : Option Addr
  lz : Nat
  cz : Nat
  gu : Bool
  au : Option Addr
  lu : Nat
  cu : Nat
  aau : Option Addr
  llu : Nat
  ccu : Nat
  gv : Bool
  av : Option Addr
  lv : Nat
  cv : Nat
  aav : Option Addr
  llv : Nat
  ccv : Nat
def HV.l (v : HV) : List Value := [.bool v.gx, .slice v.ax v.lx v.cx, .bool v.gy, .slice v.ay v.ly v.cy, .bool v.gz, .slice v.az v.lz v.cz, .bool v.gu, .slice v.au v.lu v.cu, .slice v.aau v.llu v.ccu, .bool v.gv, .slice v.av v.lv v.cv, .slice v.aav v.llv v.ccv, .bool false, .bool false]
theorem HV.len (v : HV) : v.l.length = 14 := rfl
theorem HV.one (v : HV) : ∀ u ∈ v.l, u.oneCell' = true := by
  intro u hu; simp only [HV.l, List.mem_cons, List.not_mem_nil, or_false] at hu; rcases hu with rfl | rfl | rfl | rfl | rfl | rfl | rfl | rfl | rfl | rfl | rfl | rfl | rfl | rfl <;> rfl
theorem HV.nd (v : HV) : ∀ u ∈ v.l, isDigit32 u = false := by
  intro u hu; simp only [HV.l, List.mem_cons, List.not_mem_nil, or_false] at hu; rcases hu with rfl | rfl | rfl | rfl | rfl | rfl | rfl | rfl | rfl | rfl | rfl | rfl | rfl | rfl <;> rfl
def rowH (V : List HV) : List Value := V.flatMap HV.l
theorem rowH_snoc (V : List HV) (a : HV) : rowH (V ++ [a]) = rowH V ++ a.l := flat_snoc _ _ _
theorem rowH_nd (V : List HV) : ∀ u ∈ rowH V, isDigit32 u = false := flat_nd HV.nd V
def hV (V : List HV) (i : Nat) : HV := V.getD i ⟨false, none, 0, 0, false, none, 0, 0, false, none, 0, 0, false, none, 0, 0, none, 0, 0, false, none, 0, 0, none, 0, 0⟩
theorem hV_get {V : List HV} {i : Nat} (h : i < V.length) : hV V i = V[i] := getD_lt h
theorem at_hV {W w0 : World} {g k j : Nat} {V : List HV} (h : At W g (rowH V) w0) (hk : k < V.length) (hj : j < 14) : W.cell? ⟨g, k * 14 + j, none⟩ = some ((hV V k).l[j]'hj) := by
  rw [hV_get hk]
  exact h.out _ _ (by rw [rowH, flat_get HV.len V k j hk hj]; exact List.getElem?_eq_getElem (l := V[k].l) hj)
@[go_sem] theorem cell_hV0 {W w0 : World} {g k : Nat} {V : List HV} [h : At W g (rowH V) w0] (hk : k < V.length) : W.cell? ⟨g, k * 14, none⟩ = some (.bool (hV V k).gx) := at_hV h hk (j := 0) (by decide)
@[go_sem] theorem cell_hV1 {W w0 : World} {g k : Nat} {V : List HV} [h : At W g (rowH V) w0] (hk : k < V.length) : W.cell? ⟨g, k * 14 + 1, none⟩ = some (.slice (hV V k).ax (hV V k).lx (hV V k).cx) := at_hV h hk (j := 1) (by decide)
@[go_sem] theorem cell_hV2 {W w0 : World} {g k : Nat} {V : List HV} [h : At W g (rowH V) w0] (hk : k < V.length) : W.cell? ⟨g, k * 14 + 2, none⟩ = some (.bool (hV V k).gy) := at_hV h hk (j := 2) (by decide)
@[go_sem] theorem cell_hV3 {W w0 : World} {g k : Nat} {V : List HV} [h : At W g (rowH V) w0] (hk : k < V.length) : W.cell? ⟨g, k * 14 + 3, none⟩ = some (.slice (hV V k).ay (hV V k).ly (hV V k).cy) := at_hV h hk (j := 3) (by decide)
@[go_sem] theorem cell_hV4 {W w0 : World} {g k : Nat} {V : List HV} [h : At W g (rowH V) w0] (hk : k < V.length) : W.cell? ⟨g, k * 14 + 4, none⟩ = some (.bool (hV V k).gz) := at_hV h hk (j := 4) (by decide)
@[go_sem] theorem cell_hV5 {W w0 : World} {g k : Nat} {V : List HV} [h : At W g (rowH V) w0] (hk : k < V.length) : W.cell? ⟨g, k * 14 + 5, none⟩ = some (.slice (hV V k).az (hV V k).lz (hV V k).cz) := at_hV h hk (j := 5) (by decide)
@[go_sem] theorem cell_hV6 {W w0 : World} {g k : Nat} {V : List HV} [h : At W g (rowH V) w0] (hk : k < V.length) : W.cell? ⟨g, k * 14 + 6, none⟩ = some (.bool (hV V k).gu) := at_hV h hk (j := 6) (by decide)
@[go_sem] theorem cell_hV7 {W w0 : World} {g k : Nat} {V : List HV} [h : At W g (rowH V) w0] (hk : k < V.length) : W.cell? ⟨g, k * 14 + 7, none⟩ = some (.slice (hV V k).au (hV V k).lu (hV V k).cu) := at_hV h hk (j := 7) (by decide)
@[go_sem] theorem cell_hV8 {W w0 : World} {g k : Nat} {V : List HV} [h : At W g (rowH V) w0] (hk : k < V.length) : W.cell? ⟨g, k * 14 + 8, none⟩ = some (.slice (hV V k).aau (hV V k).llu (hV V k).ccu) := at_hV h hk (j := 8) (by decide)
@[go_sem] theorem cell_hV9 {W w0 : World} {g k : Nat} {V : List HV} [h : At W g (rowH V) w0] (hk : k < V.length) : W.cell? ⟨g, k * 14 + 9, none⟩ = some (.bool (hV V k).gv) := at_hV h hk (j := 9) (by decide)
@[go_sem] theorem cell_hV10 {W w0 : World} {g k : Nat} {V : List HV} [h : At W g (rowH V) w0] (hk : k < V.length) : W.cell? ⟨g, k * 14 + 10, none⟩ = some (.slice (hV V k).av (hV V k).lv (hV V k).cv) := at_hV h hk (j := 10) (by decide)
@[go_sem] theorem cell_hV11 {W w0 : World} {g k : Nat} {V : List HV} [h : At W g (rowH V) w0] (hk : k < V.length) : W.cell? ⟨g, k * 14 + 11, none⟩ = some (.slice (hV V k).aav (hV V k).llv (hV V k).ccv) := at_hV h hk (j := 11) (by decide)
@[go_sem] theorem cell_hV12 {W w0 : World} {g k : Nat} {V : List HV} [h : At W g (rowH V) w0] (hk : k < V.length) : W.cell? ⟨g, k * 14 + 12, none⟩ = some (.bool false) := at_hV h hk (j := 12) (by decide)
@[go_sem] theorem cell_hV13 {W w0 : World} {g k : Nat} {V : List HV} [h : At W g (rowH V) w0] (hk : k < V.length) : W.cell? ⟨g, k * 14 + 13, none⟩ = some (.bool false) := at_hV h hk (j := 13) (by decide)
class FsK (W : World) (V : List HV) (L : outParam (List FG)) (k : outParam Nat) : Prop where
  len : V.length = L.length
  x : ∀ i, i < V.length → CZ W (.agg #[.bool (hV V i).gx, .slice (hV V i).ax (hV V i).lx (hV V i).cx]) ((fg L i).a) k
  y : ∀ i, i < V.length → CZ W (.agg #[.bool (hV V i).gy, .slice (hV V i).ay (hV V i).ly (hV V i).cy]) ((fg L i).b) k
  z : ∀ i, i < V.length → CZ W (.agg #[.bool (hV V i).gz, .slice (hV V i).az (hV V i).lz (hV V i).cz]) ((fg L i).c) k
  u : ∀ i, i < V.length → CQ W (.agg #[.bool (hV V i).gu, .slice (hV V i).au (hV V i).lu (hV V i).cu, .slice (hV V i).aau (hV V i).llu (hV V i).ccu]) ((fg L i).lo) k
  v : ∀ i, i < V.length → CQ W (.agg #[.bool (hV V i).gv, .slice (hV V i).av (hV V i).lv (hV V i).cv, .slice (hV V i).aav (hV V i).llv (hV V i).ccv]) ((fg L i).hi) k
instance FsK.al {W : World} {V : List HV} {L : List FG} {k : Nat} {o : Obj} [h : FsK W V L k] : FsK (W.alloc o) V L k := ⟨h.len, fun i hi => by have := h.x i hi; infer_instance, fun i hi => by have := h.y i hi; infer_instance, fun i hi => by have := h.z i hi; infer_instance, fun i hi => by have := h.u i hi; infer_instance, fun i hi => by have := h.v i hi; infer_instance⟩
instance (priority := low) FsK.kp {W W2 : World} {V : List HV} {L : List FG} {k : Nat} [b : Kp1 W W2] [h : FsK W V L k] : FsK W2 V L k := ⟨h.len, fun i hi => by have := h.x i hi; infer_instance, fun i hi => by have := h.y i hi; infer_instance, fun i hi => by have := h.z i hi; infer_instance, fun i hi => by have := h.u i hi; infer_instance, fun i hi => by have := h.v i hi; infer_instance⟩
instance (priority := low) FsK.apn {W W2 : World} {V : List HV} {L : List FG} {k : Nat} [b : Apn W W2] [h : FsK W V L k] : FsK W2 V L k := ⟨h.len, fun i hi => by have := h.x i hi; infer_instance, fun i hi => by have := h.y i hi; infer_instance, fun i hi => by have := h.z i hi; infer_instance, fun i hi => by have := h.u i hi; infer_instance, fun i hi => by have := h.v i hi; infer_instance⟩
instance FsK.ix {W : World} {V : List HV} {L : List FG} {k : Nat} {i : Nat} [h : FsK W V L k] [l : LtN i V.length] : CZ W (.agg #[.bool (hV V i).gx, .slice (hV V i).ax (hV V i).lx (hV V i).cx]) ((fg L i).a) k := h.x i l.out
instance FsK.iy {W : World} {V : List HV} {L : List FG} {k : Nat} {i : Nat} [h : FsK W V L k] [l : LtN i V.length] : CZ W (.agg #[.bool (hV V i).gy, .slice (hV V i).ay (hV V i).ly (hV V i).cy]) ((fg L i).b) k := h.y i l.out
instance FsK.iz {W : World} {V : List HV} {L : List FG} {k : Nat} {i : Nat} [h : FsK W V L k] [l : LtN i V.length] : CZ W (.agg #[.bool (hV V i).gz, .slice (hV V i).az (hV V i).lz (hV V i).cz]) ((fg L i).c) k := h.z i l.out
instance FsK.iu {W : World} {V : List HV} {L : List FG} {k : Nat} {i : Nat} [h : FsK W V L k] [l : LtN i V.length] : CQ W (.agg #[.bool (hV V i).gu, .slice (hV V i).au (hV V i).lu (hV V i).cu, .slice (hV V i).aau (hV V i).llu (hV V i).ccu]) ((fg L i).lo) k := h.u i l.out
instance FsK.iv {W : World} {V : List HV} {L : List FG} {k : Nat} {i : Nat} [h : FsK W V L k] [l : LtN i V.length] : CQ W (.agg #[.bool (hV V i).gv, .slice (hV V i).av (hV V i).lv (hV V i).cv, .slice (hV V i).aav (hV V i).llv (hV V i).ccv]) ((fg L i).hi) k := h.v i l.out
theorem FsK.nil {W : World} {k : Nat} : FsK W [] [] k := ⟨rfl, fun i hi => by simp at hi, fun i hi => by simp at hi, fun i hi => by simp at hi, fun i hi => by simp at hi, fun i hi => by simp at hi⟩
theorem FsK.mono {W : World} {V : List HV} {L : List FG} {k : Nat} {k' : Nat} (h : FsK W V L k) (b : k ≤ k') : FsK W V L k' := ⟨h.len, fun i hi => (h.x i hi).cast rfl b, fun i hi => (h.y i hi).cast rfl b, fun i hi => (h.z i hi).cast rfl b, fun i hi => (h.u i hi).cast rfl b, fun i hi => (h.v i hi).cast rfl b⟩
theorem FsK.snoc {W : World} {V : List HV} {L : List FG} {k : Nat} {e : HV} {a b c : Int} {lo hiq : Rat} {kx ky kz ku kv : Nat} (h : FsK W V L k) (hx : CZ W (.agg #[.bool (e).gx, .slice (e).ax (e).lx (e).cx]) a kx) (hy : CZ W (.agg #[.bool (e).gy, .slice (e).ay (e).ly (e).cy]) b ky) (hz : CZ W (.agg #[.bool (e).gz, .slice (e).az (e).lz (e).cz]) c kz) (hu : CQ W (.agg #[.bool (e).gu, .slice (e).au (e).lu (e).cu, .slice (e).aau (e).llu (e).ccu]) lo ku) (hv : CQ W (.agg #[.bool (e).gv, .slice (e).av (e).lv (e).cv, .slice (e).aav (e).llv (e).ccv]) hiq kv) (bx : kx ≤ k) (b_y : ky ≤ k) (bz : kz ≤ k) (bu : ku ≤ k) (bv : kv ≤ k) : FsK W (V ++ [e]) (L ++ [⟨a, b, c, lo, hiq⟩]) k := by
  refine ⟨by simp [h.len], fun i hi => ?_, fun i hi => ?_, fun i hi => ?_, fun i hi => ?_, fun i hi => ?_⟩
  all_goals
    rcases Nat.lt_or_ge i V.length with hlt | hge
    · have e1 : hV (V ++ [e]) i = hV V i := by rw [hV_get hi, hV_get hlt, List.getElem_append_left hlt]
      have e2 : fg (L ++ [⟨a, b, c, lo, hiq⟩]) i = fg L i := by rw [fg_get (by rw [List.length_append, ← h.len]; omega), fg_get (by rw [← h.len]; exact hlt), List.getElem_append_left (by rw [← h.len]; exact hlt)]
      rw [e1, e2]
      first
        | exact h.x i hlt
        | exact h.y i hlt
        | exact h.z i hlt
        | exact h.u i hlt
        | exact h.v i hlt
    · have hi' : i = V.length := by simp at hi; omega
      subst hi'
      have e1 : hV (V ++ [e]) V.length = e := by rw [hV_get hi]; simp
      have e2 : fg (L ++ [⟨a, b, c, lo, hiq⟩]) V.length = ⟨a, b, c, lo, hiq⟩ := by rw [h.len, fg_get (by simp)]; simp
      rw [e1, e2]
      first
        | exact hx.cast rfl bx
        | exact hy.cast rfl b_y
        | exact hz.cast rfl bz
        | exact hu.cast rfl bu
        | exact hv.cast rfl bv
theorem FsK.add {W : World} {V : List HV} {L : List FG} {k : Nat} {gx1 : Bool} {ax1 : Option Addr} {lx1 : Nat} {cx1 : Nat} {gy1 : Bool} {ay1 : Option Addr} {ly1 : Nat} {cy1 : Nat} {gz1 : Bool} {az1 : Option Addr} {lz1 : Nat} {cz1 : Nat} {gu1 : Bool} {au1 : Option Addr} {lu1 : Nat} {cu1 : Nat} {aau1 : Option Addr} {llu1 : Nat} {ccu1 : Nat} {gv1 : Bool} {av1 : Option Addr} {lv1 : Nat} {cv1 : Nat} {aav1 : Option Addr} {llv1 : Nat} {ccv1 : Nat} {a b c : Int} {lo hi : Rat} {kx ky kz ku kv : Nat} [h : FsK W V L k] [hx : CZ W (.agg #[.bool gx1, .slice ax1 lx1 cx1]) a kx] [hy : CZ W (.agg #[.bool gy1, .slice ay1 ly1 cy1]) b ky] [hz : CZ W (.agg #[.bool gz1, .slice az1 lz1 cz1]) c kz] [hu : CQ W (.agg #[.bool gu1, .slice au1 lu1 cu1, .slice aau1 llu1 ccu1]) lo ku] [hv : CQ W (.agg #[.bool gv1, .slice av1 lv1 cv1, .slice aav1 llv1 ccv1]) hi kv] (bx : kx ≤ k) (b_y : ky ≤ k) (bz : kz ≤ k) (bu : ku ≤ k) (bv : kv ≤ k) : FsK W (V ++ [⟨gx1, ax1, lx1, cx1, gy1, ay1, ly1, cy1, gz1, az1, lz1, cz1, gu1, au1, lu1, cu1, aau1, llu1, ccu1, gv1, av1, lv1, cv1, aav1, llv1, ccv1⟩]) (L ++ [⟨a, b, c, lo, hi⟩]) k := h.snoc hx hy hz hu hv bx b_y bz bu bv
def FsKRet (w : World) (L : List FG) (k : Nat) (e : Ending) (w' : World) : Prop := ∃ (a : Option Addr) (c : Nat) (V : List HV), e = .returned (.slice a V.length c) ∧ Sl w' (.slice a V.length c) V.length (rowH V) w' ∧ FsK w' V L k ∧ Below w.heap.size w w'
theorem Calls.cFsKRet {P : Program} {f : FuncId} {args : Array Value} {w : World} {L : List FG} {k : Nat} {K : Ending → World → Prop} (h : Calls P f args w (FsKRet w L k))
    (hK : ∀ w' [Kp1 w w'] (a : Option Addr) (c : Nat) (V : List HV) [Sl w' (.slice a V.length c) V.length (rowH V) w'] [FsK w' V L k], K (.returned (.slice a V.length c)) w') : Calls P f args w K := by
  refine h.mono ?_
  rintro e w' ⟨a, c, V, rfl, hs, hv, hb⟩
  exact @hK w' ⟨hb⟩ a c V hs hv
theorem FsKRet.fin {w w' w0 : World} {a : Option Addr} {c n : Nat} {V : List HV} {L L' : List FG} {k k' : Nat} [b : Kp w w'] [hs : Sl w' (.slice a n c) V.length (rowH V) w0] [hv : FsK w' V L k] (e : L = L') (m : k ≤ k') : FsKRet w L' k' (.returned (.slice a n c)) w' := by
  obtain rfl := hs.len; subst e; exact ⟨a, c, V, rfl, hs.here, hv.mono m, b.out⟩
theorem info_kr : (Tryz.prog.info? 167).map (fun i => (i.zero, i.size, i.bytes)) = some (some (.agg #[.bool false, .slice none 0 0, .bool false, .slice none 0 0, .bool false, .slice none 0 0, .bool false, .slice none 0 0, .slice none 0 0, .bool false, .slice none 0 0, .slice none 0 0, .bool false, .bool false]), 14, 216) := by kernel_rfl
end
section
def parL (a b x y : Rat) : Rat := (b * x + -a * y) / (b * b + -a * -a)
def atLx (a b c t : Rat) : Rat := a * (-c / (a * a + b * b)) + b * t
def atLy (a b c t : Rat) : Rat := b * (-c / (a * a + b * b)) + -a * t
def onL (a b c x y : Rat) : Prop := a * x + b * y + c = 0
theorem at_on {a b c : Rat} (t : Rat) (h : a * a + b * b ≠ 0) : onL a b c (atLx a b c t) (atLy a b c t) := on_line h
theorem at_par {a b c : Rat} (t : Rat) (h : a * a + b * b ≠ 0) : parL a b (atLx a b c t) (atLy a b c t) = t := par_line h
theorem par_at {a b c x y : Rat} (h : a * a + b * b ≠ 0) (ho : onL a b c x y) : atLx a b c (parL a b x y) = x ∧ atLy a b c (parL a b x y) = y := by
  unfold onL at ho; unfold atLx atLy parL
  have h2 : b * b + -a * -a = a * a + b * b := by grind
  rw [h2]
  generalize hN : a * a + b * b = N at h
  have hi := Rat.mul_inv_cancel N h
  rw [Rat.div_def, Rat.div_def]
  generalize N⁻¹ = M at hi
  have hc : c = -(a * x + b * y) := by grind
  subst hc; subst hN
  constructor
  · have : a * (- -(a * x + b * y) * M) + b * ((b * x + -a * y) * M) = x * ((a * a + b * b) * M) := by grind
    rw [this, hi]; grind
  · have : b * (- -(a * x + b * y) * M) + -a * ((b * x + -a * y) * M) = y * ((a * a + b * b) * M) := by grind
    rw [this, hi]; grind
theorem par_inj {a b c x y x' y' : Rat} (h : a * a + b * b ≠ 0) (h1 : onL a b c x y) (h2 : onL a b c x' y') (e : parL a b x y = parL a b x' y') : x = x' ∧ y = y' := by
  have e1 := par_at h h1
  have e2 := par_at h h2
  rw [e] at e1; exact ⟨e1.1.symm.trans e2.1, e1.2.symm.trans e2.2⟩
theorem par_neg {a b x y : Rat} : parL (-a) (-b) x y = -parL a b x y := by
  unfold parL
  have h1 : -b * -b + - -a * - -a = b * b + -a * -a := by grind
  rw [h1, Rat.div_def, Rat.div_def]; grind
structure FGV (f : FG) : Prop where
  v : LnV f.a f.b f.c
  lt : f.lo < f.hi
def OnF (f : FG) (p : Rat × Rat) : Prop := onL f.a f.b f.c p.1 p.2 ∧ f.lo ≤ parL f.a f.b p.1 p.2 ∧ parL f.a f.b p.1 p.2 ≤ f.hi
def Com (f g : FG) (p : Rat × Rat) : Prop := OnF f p ∧ OnF g p
def OvP (f g : FG) : Prop := ∃ p q, p ≠ q ∧ Com f g p ∧ Com f g q
def MtP (f g : FG) (p : Rat × Rat) : Prop := Com f g p ∧ ∀ q, Com f g q → q = p
theorem Com.symm {f g : FG} {p : Rat × Rat} (h : Com f g p) : Com g f p := ⟨h.2, h.1⟩
theorem OvP.symm {f g : FG} (h : OvP f g) : OvP g f := by obtain ⟨p, q, h1, h2, h3⟩ := h; exact ⟨p, q, h1, h2.symm, h3.symm⟩
theorem MtP.symm {f g : FG} {p : Rat × Rat} (h : MtP f g p) : MtP g f p := ⟨h.1.symm, fun q hq => h.2 q hq.symm⟩
theorem MtP.uniq {f g : FG} {p q : Rat × Rat} (h : MtP f g p) (h2 : MtP f g q) : p = q := h2.2 p h.1
theorem MtP.not {f g : FG} {p : Rat × Rat} (h : MtP f g p) : ¬ OvP f g := by
  rintro ⟨a, b, hne, h1, h2⟩
  exact hne ((h.2 a h1).trans (h.2 b h2).symm)
def atF (f : FG) (t : Rat) : Rat × Rat := (atLx f.a f.b f.c t, atLy f.a f.b f.c t)
theorem FGV.ne {f : FG} (h : FGV f) : (f.a : Rat) * f.a + (f.b : Rat) * f.b ≠ 0 := sq_ne h.v.1
def OntoP (f g : FG) (lo hi : Rat) : Prop := ∀ p, OnF g p ↔ onL f.a f.b f.c p.1 p.2 ∧ lo ≤ parL f.a f.b p.1 p.2 ∧ parL f.a f.b p.1 p.2 ≤ hi
section
variable {f g : FG} {lo hi : Rat}
theorem OntoP.same (e : (f.a = g.a ∧ f.b = g.b ∧ f.c = g.c)) : OntoP f g g.lo g.hi := fun p => by
  unfold OnF; rw [e.1, e.2.1, e.2.2]
theorem OntoP.opp (e : (f.a = -g.a ∧ f.b = -g.b ∧ f.c = -g.c)) : OntoP f g (-g.hi) (-g.lo) := fun p => by
  unfold OnF onL; rw [e.1, e.2.1, e.2.2, Rat.intCast_neg, Rat.intCast_neg, Rat.intCast_neg, par_neg]; constructor
  · rintro ⟨h1, h2, h3⟩; exact ⟨by grind, by grind, by grind⟩
  · rintro ⟨h1, h2, h3⟩; exact ⟨by grind, by grind, by grind⟩
theorem OntoP.com (h : OntoP f g lo hi) {p : Rat × Rat} : Com f g p ↔ onL f.a f.b f.c p.1 p.2 ∧ (f.lo ≤ parL f.a f.b p.1 p.2 ∧ parL f.a f.b p.1 p.2 ≤ f.hi) ∧ lo ≤ parL f.a f.b p.1 p.2 ∧ parL f.a f.b p.1 p.2 ≤ hi := by
  unfold Com; rw [h p]; unfold OnF
  constructor
  · rintro ⟨⟨h1, h2⟩, h3, h4⟩; exact ⟨h1, h2, h4⟩
  · rintro ⟨h1, h2, h3⟩; exact ⟨⟨h1, h2⟩, h1, h3⟩
theorem OntoP.at_com (hf : FGV f) (h : OntoP f g lo hi) {t : Rat} (h1 : f.lo ≤ t ∧ t ≤ f.hi) (h2 : lo ≤ t ∧ t ≤ hi) : Com f g (atF f t) := by
  rw [h.com]
  refine ⟨at_on t hf.ne, ?_⟩
  show (_ ≤ parL _ _ (atLx _ _ _ t) (atLy _ _ _ t) ∧ _) ∧ _
  simp only [atF]; rw [at_par t hf.ne]; exact ⟨h1, h2⟩
theorem atF_inj (hf : FGV f) {s t : Rat} (e : atF f s = atF f t) : s = t := by
  have h1 := at_par (c := (f.c : Rat)) s hf.ne
  have h2 := at_par (c := (f.c : Rat)) t hf.ne
  have e1 : atLx f.a f.b f.c s = atLx f.a f.b f.c t := congrArg Prod.fst e
  have e2 : atLy f.a f.b f.c s = atLy f.a f.b f.c t := congrArg Prod.snd e
  rw [e1, e2, h2] at h1; exact h1.symm
theorem OntoP.ov (hf : FGV f) (hl : lo < hi) (h : OntoP f g lo hi) : OvP f g ↔ f.lo < hi ∧ lo < f.hi := by
  constructor
  · rintro ⟨p, q, hne, h1, h2⟩
    rw [h.com] at h1 h2; obtain ⟨o1, a1, b1⟩ := h1; obtain ⟨o2, a2, b2⟩ := h2
    have hd : parL f.a f.b p.1 p.2 ≠ parL f.a f.b q.1 q.2 := fun e => hne (Prod.ext_iff.2 (par_inj hf.ne o1 o2 e))
    grind
  · rintro ⟨h1, h2⟩
    have hlt := hf.lt
    rcases Classical.em (f.lo ≤ lo) with h3 | h3
    · rcases Classical.em (f.hi ≤ hi) with h4 | h4
      · exact ⟨atF f lo, atF f f.hi, fun e => by have := atF_inj hf e; grind, h.at_com hf (by grind) (by grind), h.at_com hf (by grind) (by grind)⟩
      · exact ⟨atF f lo, atF f hi, fun e => by have := atF_inj hf e; grind, h.at_com hf (by grind) (by grind), h.at_com hf (by grind) (by grind)⟩
    · rcases Classical.em (f.hi ≤ hi) with h4 | h4
      · exact ⟨atF f f.lo, atF f f.hi, fun e => by have := atF_inj hf e; grind, h.at_com hf (by grind) (by grind), h.at_com hf (by grind) (by grind)⟩
      · exact ⟨atF f f.lo, atF f hi, fun e => by have := atF_inj hf e; grind, h.at_com hf (by grind) (by grind), h.at_com hf (by grind) (by grind)⟩
theorem OntoP.one (hf : FGV f) (h : OntoP f g lo hi) {t : Rat} (h1 : f.lo ≤ t ∧ t ≤ f.hi) (h2 : lo ≤ t ∧ t ≤ hi) (h3 : ∀ s, f.lo ≤ s → s ≤ f.hi → lo ≤ s → s ≤ hi → s = t) : MtP f g (atF f t) := by
  refine ⟨h.at_com hf h1 h2, fun q hq => ?_⟩
  rw [h.com] at hq; obtain ⟨o, a1, b1⟩ := hq
  have e := h3 _ a1.1 a1.2 b1.1 b1.2
  have := par_at hf.ne o
  rw [e] at this; exact Prod.ext_iff.2 ⟨this.1.symm, this.2.symm⟩
theorem OntoP.hi_lo (hf : FGV f) (hl : lo < hi) (h : OntoP f g lo hi) (e : f.hi = lo) : MtP f g (atF f f.hi) :=
  h.one hf (by have := hf.lt; grind) (by grind) (fun s _ _ _ _ => by grind)
theorem OntoP.lo_hi (hf : FGV f) (hl : lo < hi) (h : OntoP f g lo hi) (e : f.lo = hi) : MtP f g (atF f f.lo) :=
  h.one hf (by have := hf.lt; grind) (by grind) (fun s _ _ _ _ => by grind)
theorem OntoP.no (hf : FGV f) (hl : lo < hi) (h : OntoP f g lo hi) (e1 : f.hi ≠ lo) (e2 : f.lo ≠ hi) {p : Rat × Rat} : ¬ MtP f g p := by
  intro hm
  have hn := hm.not
  rw [h.ov hf hl] at hn
  have hc := hm.1
  rw [h.com] at hc
  have := hf.lt
  grind
end
theorem lines_meet {f g : FG} (h : ((f.a : Rat) * g.b - f.b * g.a) ≠ 0) {p q : Rat × Rat} (h1 : Com f g p) (h2 : Com f g q) : p = q := by
  obtain ⟨⟨a1, _⟩, ⟨b1, _⟩⟩ := h1; obtain ⟨⟨a2, _⟩, ⟨b2, _⟩⟩ := h2; unfold onL at a1 a2 b1 b2
  have e1 : ((f.a : Rat) * g.b - f.b * g.a) * (p.1 - q.1) = 0 := by grind
  have e2 : ((f.a : Rat) * g.b - f.b * g.a) * (p.2 - q.2) = 0 := by grind
  have e3 := (Rat.mul_eq_zero.1 e1).resolve_left h
  have e4 := (Rat.mul_eq_zero.1 e2).resolve_left h
  exact Prod.ext_iff.2 ⟨by grind, by grind⟩
theorem lines_noOv {f g : FG} (h : ((f.a : Rat) * g.b - f.b * g.a) ≠ 0) : ¬ OvP f g := by
  rintro ⟨p, q, hne, h1, h2⟩
  exact hne (lines_meet h h1 h2)
theorem lines_mt {f g : FG} (h : ((f.a : Rat) * g.b - f.b * g.a) ≠ 0) {p : Rat × Rat} (hc : Com f g p) : MtP f g p := ⟨hc, fun q hq => lines_meet h hq hc⟩
theorem mul_eq_cases {k : Rat} {a b c a' b' c' : Int} (hv : LnV a b c) (hw : LnV a' b' c') (hk : k ≠ 0) (e1 : (a : Rat) = k * a') (e2 : (b : Rat) = k * b') (e3 : (c : Rat) = k * c') : (a = a' ∧ b = b' ∧ c = c') ∨ (a = -a' ∧ b = -b' ∧ c = -c') := by
  rcases Classical.em (0 < k) with hp | hp
  · left
    have h : ∀ x : Int, (x : Rat) = lnK (x : Rat) a b c := fun x => (lnK_self hv).symm
    have h1 := lnK_pos (x := a') hw hp
    have h2 := lnK_pos (x := b') hw hp
    have h3 := lnK_pos (x := c') hw hp
    have c1 : (a' : Rat) * k = a := by grind
    have c2 : (b' : Rat) * k = b := by grind
    have c3 : (c' : Rat) * k = c := by grind
    rw [c1, c2, c3] at h1 h2 h3; rw [lnK_self hv] at h1 h2 h3
    exact ⟨by exact_mod_cast h1, by exact_mod_cast h2, by exact_mod_cast h3⟩
  · right
    have hp' : 0 < -k := by grind
    have h1 := lnK_pos (x := -a') hw.rev hp'
    have h2 := lnK_pos (x := -b') hw.rev hp'
    have h3 := lnK_pos (x := -c') hw.rev hp'
    have c1 : ((-a' : Int) : Rat) * -k = a := by rw [Rat.intCast_neg]; grind
    have c2 : ((-b' : Int) : Rat) * -k = b := by rw [Rat.intCast_neg]; grind
    have c3 : ((-c' : Int) : Rat) * -k = c := by rw [Rat.intCast_neg]; grind
    rw [c1, c2, c3] at h1 h2 h3; rw [lnK_self hv] at h1 h2 h3
    exact ⟨by exact_mod_cast h1, by exact_mod_cast h2, by exact_mod_cast h3⟩
theorem par_same {f g : FG} (hf : FGV f) (hg : FGV g) (h : ((f.a : Rat) * g.b - f.b * g.a) = 0) {p : Rat × Rat} (hc : Com f g p) : (f.a = g.a ∧ f.b = g.b ∧ f.c = g.c) ∨ (f.a = -g.a ∧ f.b = -g.b ∧ f.c = -g.c) := by
  obtain ⟨⟨a1, _⟩, ⟨b1, _⟩⟩ := hc; unfold onL at a1 b1
  have hn := hg.ne
  have hi := Rat.mul_inv_cancel _ hn
  generalize hM : ((g.a : Rat) * g.a + (g.b : Rat) * g.b)⁻¹ = M at hi
  have ka : (f.a : Rat) = (((f.a : Rat) * g.a + (f.b : Rat) * g.b) * M) * g.a := by
    have : (((f.a : Rat) * g.a + (f.b : Rat) * g.b) * M) * g.a = (f.a : Rat) * (((g.a : Rat) * g.a + (g.b : Rat) * g.b) * M) := by grind
    rw [this, hi]; grind
  have kb : (f.b : Rat) = (((f.a : Rat) * g.a + (f.b : Rat) * g.b) * M) * g.b := by
    have : (((f.a : Rat) * g.a + (f.b : Rat) * g.b) * M) * g.b = (f.b : Rat) * (((g.a : Rat) * g.a + (g.b : Rat) * g.b) * M) := by grind
    rw [this, hi]; grind
  refine mul_eq_cases (k := ((f.a : Rat) * g.a + (f.b : Rat) * g.b) * M) hf.v hg.v (fun e => ?_) ka kb (by grind)
  rw [e] at ka kb
  exact hf.v.1 ⟨by have : (f.a : Rat) = ((0 : Int) : Rat) := by rw [ka]; simp
                   exact_mod_cast this, by have : (f.b : Rat) = ((0 : Int) : Rat) := by rw [kb]; simp
                                           exact_mod_cast this⟩
end
section
theorem turnC {w : World} {n1x d1x n1y d1y : Int} {p1x p1y : Option Addr} {x y : Rat} {k1x k1y : Nat} [h1x : CF w (.agg #[.int .i64 n1x, .int .i64 d1x, .pointer p1x]) x k1x] [h1y : CF w (.agg #[.int .i64 n1y, .int .i64 d1y, .pointer p1y]) y k1y] (b : k1x ≤ 400000 ∧ k1y ≤ 400000) :
    Calls Tryz.prog 266 #[.agg #[.int .i64 n1x, .int .i64 d1x, .pointer p1x, .int .i64 n1y, .int .i64 d1y, .pointer p1y]] w (CPFRet w (-y) (x) (k1x + k1y)) := by
  go_enter Tryz.func266, Tryz.ntmps266; go_wp2_with fail; refine rgn [w.heap.size + 1] [] fun hH => ?_; refine tk 0 hH ?_; refine tk 1 hH ?_; refine tk 3 hH ?_; refine tk 4 hH ?_; refine st 2 fun K hK => ?_; go_simp; (with_reducible refine Calls.cF (rNegC (by omega)) ?_); intros; refine hd hK ?_; clear hH hK K; intro hH; refine tk 5 hH ?_; refine st 6 fun K hK => ?_; go_simp; refine hd hK ?_; clear hH hK K; intro hH; refine dn ?_; clear hH; go_wp2; refine ret_bx rfl Tryz.underlying152 rfl (by kernel_rfl) rfl rfl rfl ?_; exact CPFRet.fin rfl (by omega) rfl (by omega)
theorem lnNormalC {w : World} {n1x d1x n1y d1y n1z d1z : Int} {p1x p1y p1z : Option Addr} {la lb lc : Rat} {k1x k1y k1z : Nat} [h1x : CF w (.agg #[.int .i64 n1x, .int .i64 d1x, .pointer p1x]) la k1x] [h1y : CF w (.agg #[.int .i64 n1y, .int .i64 d1y, .pointer p1y]) lb k1y] [h1z : CF w (.agg #[.int .i64 n1z, .int .i64 d1z, .pointer p1z]) lc k1z] (b : k1x ≤ 400000 ∧ k1y ≤ 400000 ∧ k1z ≤ 400000) :
    Calls Tryz.prog 224 #[.agg #[.int .i64 n1x, .int .i64 d1x, .pointer p1x, .int .i64 n1y, .int .i64 d1y, .pointer p1y, .int .i64 n1z, .int .i64 d1z, .pointer p1z]] w (CPFRet w (la) (lb) (max k1x k1y)) := by
  go_enter Tryz.func224, Tryz.ntmps224; go_wp2; refine ret_bx rfl Tryz.underlying152 rfl (by kernel_rfl) rfl rfl rfl ?_; exact CPFRet.fin rfl (by omega) rfl (by omega)
theorem lnDirC {w : World} {n1x d1x n1y d1y n1z d1z : Int} {p1x p1y p1z : Option Addr} {la lb lc : Rat} {k1x k1y k1z : Nat} [h1x : CF w (.agg #[.int .i64 n1x, .int .i64 d1x, .pointer p1x]) la k1x] [h1y : CF w (.agg #[.int .i64 n1y, .int .i64 d1y, .pointer p1y]) lb k1y] [h1z : CF w (.agg #[.int .i64 n1z, .int .i64 d1z, .pointer p1z]) lc k1z] (b : k1x ≤ 400000 ∧ k1y ≤ 400000 ∧ k1z ≤ 400000) :
    Calls Tryz.prog 227 #[.agg #[.int .i64 n1x, .int .i64 d1x, .pointer p1x, .int .i64 n1y, .int .i64 d1y, .pointer p1y, .int .i64 n1z, .int .i64 d1z, .pointer p1z]] w (CPFRet w (lb) (-la) (max k1x k1y)) := by
  go_enter Tryz.func227, Tryz.ntmps227; go_wp2_with fail; refine rgn [w.heap.size + 1] [] fun hH => ?_; refine tk 0 hH ?_; refine tk 1 hH ?_; refine tk 2 hH ?_; refine tk 3 hH ?_; refine st 4 fun K hK => ?_; go_simp; (with_reducible refine Calls.cF (rNegC (by omega)) ?_); intros; refine hd hK ?_; clear hH hK K; intro hH; refine tk 5 hH ?_; refine st 6 fun K hK => ?_; go_simp; refine hd hK ?_; clear hH hK K; intro hH; refine dn ?_; clear hH; go_wp2; refine ret_bx rfl Tryz.underlying152 rfl (by kernel_rfl) rfl rfl rfl ?_; exact CPFRet.fin rfl (by omega) rfl (by omega)
theorem lnReverseC {w : World} {n1x d1x n1y d1y n1z d1z : Int} {p1x p1y p1z : Option Addr} {la lb lc : Rat} {k1x k1y k1z : Nat} [h1x : CF w (.agg #[.int .i64 n1x, .int .i64 d1x, .pointer p1x]) la k1x] [h1y : CF w (.agg #[.int .i64 n1y, .int .i64 d1y, .pointer p1y]) lb k1y] [h1z : CF w (.agg #[.int .i64 n1z, .int .i64 d1z, .pointer p1z]) lc k1z] (b : k1x ≤ 400000 ∧ k1y ≤ 400000 ∧ k1z ≤ 400000) :
    Calls Tryz.prog 222 #[.agg #[.int .i64 n1x, .int .i64 d1x, .pointer p1x, .int .i64 n1y, .int .i64 d1y, .pointer p1y, .int .i64 n1z, .int .i64 d1z, .pointer p1z]] w (CLFRet w (-la) (-lb) (-lc) (max k1x (max k1y k1z) + 5)) := by
  go_enter Tryz.func222, Tryz.ntmps222; go_wp2_with fail; refine rgn [w.heap.size + 1] [] fun hH => ?_; refine tk 0 hH ?_; refine tk 1 hH ?_; refine tk 3 hH ?_; refine tk 4 hH ?_; refine tk 6 hH ?_; refine tk 7 hH ?_; refine st 2 fun K hK => ?_; go_simp; (with_reducible refine Calls.cF (rNegC (by omega)) ?_); intros; refine hd hK ?_; clear hH hK K; intro hH; refine st 5 fun K hK => ?_; go_simp; (with_reducible refine Calls.cF (rNegC (by omega)) ?_); intros; refine hd hK ?_; clear hH hK K; intro hH; refine st 8 fun K hK => ?_; go_simp; (with_reducible refine Calls.cF (rNegC (by omega)) ?_); intros; refine hd hK ?_; clear hH hK K; intro hH; refine tk 9 hH ?_; refine st 10 fun K hK => ?_; go_simp; refine hd hK ?_; clear hH hK K; intro hH; refine dn ?_; clear hH; go_wp2; refine ret_bx rfl Tryz.underlying178 rfl (by kernel_rfl) rfl rfl rfl ?_; exact CLFRet.fin rfl (by omega) rfl (by omega) rfl (by omega)
theorem lnBaseC {w : World} {n1x d1x n1y d1y n1z d1z : Int} {p1x p1y p1z : Option Addr} {la lb lc : Rat} {k1x k1y k1z : Nat} [h1x : CF w (.agg #[.int .i64 n1x, .int .i64 d1x, .pointer p1x]) la k1x] [h1y : CF w (.agg #[.int .i64 n1y, .int .i64 d1y, .pointer p1y]) lb k1y] [h1z : CF w (.agg #[.int .i64 n1z, .int .i64 d1z, .pointer p1z]) lc k1z] (b : k1x ≤ 9000 ∧ k1y ≤ 9000 ∧ k1z ≤ 9000) :
    Calls Tryz.prog 229 #[.agg #[.int .i64 n1x, .int .i64 d1x, .pointer p1x, .int .i64 n1y, .int .i64 d1y, .pointer p1y, .int .i64 n1z, .int .i64 d1z, .pointer p1z]] w (CPFRet w (la * (-lc / (la * la + lb * lb))) (lb * (-lc / (la * la + lb * lb))) (5 * (max k1x k1y) + k1z + 20)) := by
  go_enter Tryz.func229, Tryz.ntmps229
  go_wp2_with (first
    | (go_at_call 224; (with_reducible refine Calls.cPF (lnNormalC (by omega)) ?_); intros))
  refine rgn [w.heap.size + 1] [] fun hH => ?_; refine tk 0 hH ?_; refine tk 1 hH ?_; refine tk 2 hH ?_; refine tk 4 hH ?_; refine tk 5 hH ?_; refine st 3 fun K hK => ?_; go_simp; (with_reducible refine Calls.cF (rNegC (by omega)) ?_); intros; refine hd hK ?_; clear hH hK K; intro hH; refine st 6 fun K hK => ?_; go_simp; (with_reducible refine Calls.cF (gDotC (by omega)) ?_); intros; refine hd hK ?_; clear hH hK K; intro hH; refine st 7 fun K hK => ?_; go_simp; (with_reducible refine Calls.cF (rQuoC (by omega)) ?_); intros; refine hd hK ?_; clear hH hK K; intro hH; refine st 8 fun K hK => ?_; go_simp; (with_reducible refine Calls.cPF (ptScaleC (by omega)) ?_); intros; refine hd hK ?_; clear hH hK K; intro hH; refine st 9 fun K hK => ?_; go_simp; refine hd hK ?_; clear hH hK K; intro hH; refine dn ?_; clear hH; go_wp2; refine ret_bx rfl Tryz.underlying152 rfl (by kernel_rfl) rfl rfl rfl ?_; exact CPFRet.fin rfl (by omega) rfl (by omega)
theorem lnAtC {w : World} {n1x d1x n1y d1y n1z d1z n2 d2 : Int} {p1x p1y p1z p2 : Option Addr} {la lb lc t : Rat} {k1x k1y k1z k2 : Nat} [h1x : CF w (.agg #[.int .i64 n1x, .int .i64 d1x, .pointer p1x]) la k1x] [h1y : CF w (.agg #[.int .i64 n1y, .int .i64 d1y, .pointer p1y]) lb k1y] [h1z : CF w (.agg #[.int .i64 n1z, .int .i64 d1z, .pointer p1z]) lc k1z] [h2 : CF w (.agg #[.int .i64 n2, .int .i64 d2, .pointer p2]) t k2] (b : k1x ≤ 8000 ∧ k1y ≤ 8000 ∧ k1z ≤ 8000 ∧ k2 ≤ 8000) :
    Calls Tryz.prog 168 #[.agg #[.int .i64 n1x, .int .i64 d1x, .pointer p1x, .int .i64 n1y, .int .i64 d1y, .pointer p1y, .int .i64 n1z, .int .i64 d1z, .pointer p1z], .agg #[.int .i64 n2, .int .i64 d2, .pointer p2]] w (CPFRet w (la * (-lc / (la * la + lb * lb)) + lb * t) (lb * (-lc / (la * la + lb * lb)) + -la * t) (6 * (max k1x k1y) + k1z + k2 + 30)) := by
  go_enter Tryz.func168, Tryz.ntmps168; go_wp2_with fail; refine rgn [w.heap.size + 1 + 1] [] fun hH => ?_; refine tk 0 hH ?_; refine tk 2 hH ?_; refine tk 4 hH ?_; refine st 1 fun K hK => ?_; go_simp; (with_reducible refine Calls.cPF (lnBaseC (by omega)) ?_); intros; refine hd hK ?_; clear hH hK K; intro hH; refine st 3 fun K hK => ?_; go_simp; (with_reducible refine Calls.cPF (lnDirC (by omega)) ?_); intros; refine hd hK ?_; clear hH hK K; intro hH; refine st 5 fun K hK => ?_; go_simp; (with_reducible refine Calls.cPF (ptScaleC (by omega)) ?_); intros; refine hd hK ?_; clear hH hK K; intro hH; refine st 6 fun K hK => ?_; go_simp; (with_reducible refine Calls.cPF (ptAddC (by omega)) ?_); intros; refine hd hK ?_; clear hH hK K; intro hH; refine st 7 fun K hK => ?_; go_simp; refine hd hK ?_; clear hH hK K; intro hH; refine dn ?_; clear hH; go_wp2; refine ret_bx rfl Tryz.underlying152 rfl (by kernel_rfl) rfl rfl rfl ?_; exact CPFRet.fin rfl (by omega) rfl (by omega)
theorem lnParamC {w : World} {n1x d1x n1y d1y n1z d1z n2x d2x n2y d2y : Int} {p1x p1y p1z p2x p2y : Option Addr} {la lb lc x y : Rat} {k1x k1y k1z k2x k2y : Nat} [h1x : CF w (.agg #[.int .i64 n1x, .int .i64 d1x, .pointer p1x]) la k1x] [h1y : CF w (.agg #[.int .i64 n1y, .int .i64 d1y, .pointer p1y]) lb k1y] [h1z : CF w (.agg #[.int .i64 n1z, .int .i64 d1z, .pointer p1z]) lc k1z] [h2x : CF w (.agg #[.int .i64 n2x, .int .i64 d2x, .pointer p2x]) x k2x] [h2y : CF w (.agg #[.int .i64 n2y, .int .i64 d2y, .pointer p2y]) y k2y] (b : k1x ≤ 8000 ∧ k1y ≤ 8000 ∧ k1z ≤ 8000 ∧ k2x ≤ 8000 ∧ k2y ≤ 8000) :
    Calls Tryz.prog 166 #[.agg #[.int .i64 n1x, .int .i64 d1x, .pointer p1x, .int .i64 n1y, .int .i64 d1y, .pointer p1y, .int .i64 n1z, .int .i64 d1z, .pointer p1z], .agg #[.int .i64 n2x, .int .i64 d2x, .pointer p2x, .int .i64 n2y, .int .i64 d2y, .pointer p2y]] w (CFRet w ((lb * x + -la * y) / (lb * lb + -la * -la)) (6 * (max k1x k1y) + k2x + k2y + 30)) := by
  go_enter Tryz.func166, Tryz.ntmps166
  go_wp2_with (first
    | (go_at_call 227; (with_reducible refine Calls.cPF (lnDirC (by omega)) ?_); intros))
  refine rgn [w.heap.size + 1 + 1] [] fun hH => ?_; refine tk 0 hH ?_; refine tk 1 hH ?_; refine tk 3 hH ?_; refine tk 4 hH ?_; refine st 2 fun K hK => ?_; go_simp; (with_reducible refine Calls.cF (gDotC (by omega)) ?_); intros; refine hd hK ?_; clear hH hK K; intro hH; refine st 5 fun K hK => ?_; go_simp; (with_reducible refine Calls.cF (gDotC (by omega)) ?_); intros; refine hd hK ?_; clear hH hK K; intro hH; refine st 6 fun K hK => ?_; go_simp; (with_reducible refine Calls.cF (rQuoC (by omega)) ?_); intros; refine hd hK ?_; clear hH hK K; intro hH; refine st 7 fun K hK => ?_; go_simp; refine hd hK ?_; clear hH hK K; intro hH; refine dn ?_; clear hH; go_wp2; refine ret_bx rfl Tryz.underlying147 rfl (by kernel_rfl) rfl rfl rfl ?_; exact CFRet.fin rfl (by omega)
end
section
section
variable {P : Program} {ops : Array Oper} {Q : Exit → Act → World → Prop} {md : Region.Mode} {S : World → Prop} {T : Nat → Bool}
def dstOf (ops : Array Oper) (i : Nat) : Option Tmp := (ops[i]?).bind (·.dst)
def putAll (f : Nat → Value) : List (Nat × Tmp) → Act → Act
  | [], a => a
  | p :: r, a => putAll f r (a.put (some p.2) (f p.1))
def upd (f : Nat → Value) (i : Nat) (v : Value) : Nat → Value := fun j => if j = i then v else f j
theorem put_put {a : Act} {d : Option Tmp} {x v : Value} : (a.put d x).put d v = a.put d v := by
  cases d with
  | none => rfl
  | some d => simp [Act.put]
theorem put_comm {a : Act} {d e : Option Tmp} {x v : Value} (h : d ≠ e) : (a.put d x).put e v = (a.put e v).put d x := by
  cases d with
  | none => rfl
  | some d =>
    cases e with
    | none => rfl
    | some e =>
      have hde : d ≠ e := fun h' => h (by rw [h'])
      simp only [Act.put]; rw [Array.setIfInBounds_comm _ _ hde]
theorem putAll_put {f : Nat → Value} {d : Tmp} {v : Value} : ∀ (r : List (Nat × Tmp)) (a : Act), (∀ p ∈ r, p.2 ≠ d) → (putAll f r a).put (some d) v = putAll f r (a.put (some d) v)
  | [], _, _ => rfl
  | p :: r, a, h => by
    show (putAll f r _).put _ v = putAll f r _
    rw [putAll_put r _ (fun k hk => h k (List.mem_cons_of_mem _ hk)), put_comm (fun e => h p (List.mem_cons_self ..) (Option.some.inj e))]
theorem putAll_congr {f g : Nat → Value} : ∀ (r : List (Nat × Tmp)) (a : Act), (∀ p ∈ r, f p.1 = g p.1) → putAll f r a = putAll g r a
  | [], _, _ => rfl
  | p :: r, a, h => by
    show putAll f r _ = putAll g r _
    rw [h p (List.mem_cons_self ..), putAll_congr r _ (fun k hk => h k (List.mem_cons_of_mem _ hk))]
theorem putAll_upd {f : Nat → Value} {i : Nat} {d : Tmp} {v : Value} : ∀ (r : List (Nat × Tmp)) (a : Act), (r.map (·.2)).Nodup → (r.map (·.1)).Nodup → (i, d) ∈ r → (putAll f r a).put (some d) v = putAll (upd f i v) r a
  | [], _, _, _, hi => nomatch hi
  | p :: r, a, hn, hm, hi => by
    rw [List.map_cons, List.nodup_cons] at hn hm; obtain ⟨hj, hn⟩ := hn; obtain ⟨hk, hm⟩ := hm
    rcases List.mem_cons.1 hi with e | hi'
    · subst e
      have hne : ∀ k ∈ r, k.2 ≠ d := fun k hk' e => hj (List.mem_map.2 ⟨k, hk', e⟩)
      show (putAll f r _).put _ v = putAll (upd f i v) r _
      rw [putAll_put r _ hne, put_put, show upd f i v i = v from if_pos rfl]
      exact putAll_congr r _ (fun k hk' => (if_neg (fun e => hk (List.mem_map.2 ⟨k, hk', e⟩))).symm)
    · have hij : p.1 ≠ i := fun e => hk (List.mem_map.2 ⟨_, hi', e.symm⟩)
      show (putAll f r (a.put _ (f p.1))).put _ v = putAll (upd f i v) r (a.put _ (upd f i v p.1))
      rw [show upd f i v p.1 = f p.1 from if_neg hij]
      exact putAll_upd r _ hn hm hi'
theorem put_self (a : Act) (d : Tmp) : a.put (some d) (a.tmps.getD d undef) = a := by
  obtain ⟨t, ds⟩ := a; simp only [Act.put, Act.mk.injEq, and_true]
  apply Array.ext_getElem?
  intro i; rw [Array.getElem?_setIfInBounds]
  split
  · rename_i h
    subst h
    split
    · rename_i h; simp [h]
    · rename_i h; simp [h]
  · rfl
theorem putAll_self {f : Nat → Value} (a : Act) : ∀ r : List (Nat × Tmp), (∀ p ∈ r, f p.1 = a.tmps.getD p.2 undef) → putAll f r a = a
  | [], _ => rfl
  | p :: r, h => by
    show putAll f r (a.put (some p.2) (f p.1)) = a
    rw [h p (List.mem_cons_self ..), put_self]; exact putAll_self a r (fun q hq => h q (List.mem_cons_of_mem _ hq))
def slotOf (a : Act) : List (Nat × Tmp) → Nat → Value
  | [], _ => undef
  | p :: r, i => if i = p.1 then a.tmps.getD p.2 undef else slotOf a r i
theorem slotOf_eq (a : Act) : ∀ r : List (Nat × Tmp), (r.map (·.1)).Nodup → ∀ p ∈ r, slotOf a r p.1 = a.tmps.getD p.2 undef
  | [], _, _, h => nomatch h
  | q :: r, hn, p, h => by
    rw [List.map_cons, List.nodup_cons] at hn
    rcases List.mem_cons.1 h with rfl | h
    · exact if_pos rfl
    · show (if p.1 = q.1 then _ else slotOf a r p.1) = _
      rw [if_neg (fun e => hn.1 (List.mem_map.2 ⟨p, h, e⟩))]; exact slotOf_eq a r hn.2 p h
def lset : List Nat → Array Bool → Array Bool
  | [], L => L
  | i :: s, L => lset s (L.setIfInBounds i true)
theorem lset_get : ∀ (s : List Nat) (L : Array Bool) (j : Nat), (lset s L)[j]? = if j ∈ s ∧ j < L.size then some true else L[j]?
  | [], L, j => by simp [lset]
  | i :: s, L, j => by
    show (lset s _)[j]? = _
    rw [lset_get s, Array.getElem?_setIfInBounds, Array.size_setIfInBounds]
    by_cases hij : i = j
    · subst hij
      by_cases hl : i < L.size <;> simp [hl]
    · have hji : ¬ j = i := fun e => hij e.symm
      simp [hij, hji]
theorem lset_step (todo : List Nat) (g : Nat → Bool) {i : Nat} (hi : i ∈ todo) (L : Array Bool) : (lset (todo.filter g) L).setIfInBounds i true = lset (todo.filter (fun j => g j || j == i)) L := by
  apply Array.ext_getElem?
  intro j
  have hs : ∀ (s : List Nat) (L : Array Bool), (lset s L).size = L.size := by
    intro s
    induction s with
    | nil => intro L; rfl
    | cons i s ih => intro L; show (lset s _).size = _; rw [ih, Array.size_setIfInBounds]
  rw [Array.getElem?_setIfInBounds, lset_get, lset_get, hs]; simp only [List.mem_filter, Bool.or_eq_true, beq_iff_eq]
  by_cases hij : i = j
  · subst hij
    by_cases hl : i < L.size <;> simp [hl, hi]
  · have hji : ¬ j = i := fun e => hij e.symm
    simp [hij, hji]
def subs : List Nat → List (List Nat)
  | [] => [[]]
  | i :: r => (subs r).flatMap fun s => [s, i :: s]
theorem filter_subs (g : Nat → Bool) : ∀ l, l.filter g ∈ subs l
  | [] => List.mem_cons_self ..
  | i :: r => by
    rw [List.filter_cons]
    refine List.mem_flatMap.2 ⟨_, filter_subs g r, ?_⟩
    split
    · exact List.mem_cons_of_mem _ (List.mem_cons_self ..)
    · exact List.mem_cons_self ..
def chkS (md : Region.Mode) (ops : Array Oper) (L0 : Array Bool) (todo : List Nat) (pre : Nat → List Nat) : Bool :=
  (subs todo).all fun s => !(s.all fun i => (pre i).all fun j => s.contains j) || s == todo || (!(Region.ready md ops (lset s L0)).isEmpty && (Region.ready md ops (lset s L0)).all fun i => todo.contains i && !s.contains i && (pre i).all fun j => s.contains j)
theorem count_step {g : Nat → Bool} {i : Nat} (hg : g i = false) : ∀ l : List Nat, l.Nodup → i ∈ l → (l.filter fun j => !g j).length = (l.filter fun j => !(g j || j == i)).length + 1
  | [], _, hi => nomatch hi
  | j :: r, hn, hi => by
    rw [List.nodup_cons] at hn
    by_cases hij : j = i
    · subst hij
      have h0 : (r.filter fun k => !g k) = r.filter fun k => !(g k || k == j) := by
        apply List.filter_congr
        intro k hk
        have : k ≠ j := fun e => hn.1 (e ▸ hk)
        simp [this]
      simp [hg, h0]
    · have := count_step hg r hn.2 ((List.mem_cons.1 hi).resolve_left (fun e => hij e.symm))
      simp only [List.filter_cons, Bool.or_false, show (j == i) = false by simpa using hij]
      split <;> simp [this]
class Last (φ : Value → World → Prop) : Prop where out : ∀ v W W', Below W.heap.size W W' → φ v W → φ v W'
def phi : List (Value → World → Prop) → List Nat → Nat → Value → World → Prop
  | φ :: r, j :: s, i => if i = j then φ else phi r s i
  | _, _, _ => fun _ _ => True
class Lasts (l : List (Value → World → Prop)) : Prop where out : ∀ (s : List Nat) (i : Nat), Last (phi l s i)
instance Lasts.nil : Lasts [] := ⟨fun _ _ => ⟨fun _ _ _ _ _ => trivial⟩⟩
instance Lasts.cons {φ : Value → World → Prop} {l : List (Value → World → Prop)} [h1 : Last φ] [h2 : Lasts l] : Lasts (φ :: l) := ⟨fun s i => by
  cases s with
  | nil => exact ⟨fun _ _ _ _ _ => trivial⟩
  | cons j s =>
    show Last (if i = j then φ else phi l s i)
    split
    · exact h1
    · exact h2.out s i⟩
def NewP (v : Value) (W : World) : Prop := ∃ b, v = .pointer (some ⟨b, 0, none⟩) ∧ W.heap.size ≤ b
def OldP (v : Value) (W : World) : Prop := ∃ b, v = .pointer (some ⟨b, 0, none⟩) ∧ b < W.heap.size
theorem newP_ne {u v : Value} {W : World} (h1 : NewP v W) (h2 : OldP u W) : u ≠ v := by
  obtain ⟨b, rfl, hb⟩ := h1; obtain ⟨c, rfl, hc⟩ := h2; intro e; simp only [Value.pointer.injEq, Option.some.injEq, Addr.mk.injEq, and_true] at e; omega
theorem ptr_ne {b c : Nat} (h : (Value.pointer (some ⟨b, 0, none⟩)) ≠ .pointer (some ⟨c, 0, none⟩)) : NeN b c := ⟨fun e => h (by rw [e])⟩
theorem wpAnyT_inv (dl : List (Nat × Tmp)) (pre : Nat → List Nat) (φs : List (Value → World → Prop)) [hΦ : Lasts φs] (A : List Nat) {L0 : Array Bool} {a0 : Act} {w : World} {F : Nat} (m : Nat) (hF : F = m + dl.length)
    (hchk : chkS md ops L0 (dl.map (·.1)) pre = true) (hd : (dl.map (·.2)).Nodup) (hnd : (dl.map (·.1)).Nodup) (hds : (dl.all fun p => dstOf ops p.1 == some p.2) = true) (hA : ∀ i ∈ A, ∀ v W, phi φs (dl.map (·.1)) i v W → OldP v W) (hSk : ∀ W W', Below W.heap.size W W' → S W → S W') (hS : S w)
    (hop : ∀ i ∈ dl.map (·.1), ∀ (f : Nat → Value) (W : World), S W → Below w.heap.size w W → (∀ j ∈ pre i, phi φs (dl.map (·.1)) j (f j) W) → ∃ o, ops[i]? = some o ∧ ∀ K' : Act → World → Prop,
      Shut (∀ a' v W', a' = (putAll f dl a0).put o.dst v → Below W.heap.size W W' → phi φs (dl.map (·.1)) i v W' → (i ∈ A → NewP v W) → K' a' W') →
      if Region.wanted o (yielded ops (putAll f dl a0).tmps) = true then Oper.wp P o (putAll f dl a0) W K' Q else K' ((putAll f dl a0).put o.dst undef) W)
    (hend : ∀ (f : Nat → Value) (W : World), S W → Below w.heap.size w W → (∀ j ∈ dl.map (·.1), phi φs (dl.map (·.1)) j (f j) W) → (∀ j k, j ∈ A → k ∈ A → j ∈ dl.map (·.1) → k ∈ dl.map (·.1) → j ≠ k → f j ≠ f k) → wpAnyT P md ops Q S T m (lset (dl.map (·.1)) L0) (putAll f dl a0) W) :
    wpAnyT P md ops Q S T F L0 a0 w := by
  subst hF
  have hlen : dl.length = (dl.map (·.1)).length := by rw [List.length_map]
  rw [hlen]
  have hds' : ∀ i ∈ dl.map (·.1), ∃ d, (i, d) ∈ dl ∧ dstOf ops i = some d := fun i hi => by
    obtain ⟨p, hp, rfl⟩ := List.mem_map.1 hi
    exact ⟨p.2, hp, by simpa using List.all_eq_true.1 hds p hp⟩
  generalize hT : dl.map (·.1) = todo at *
  have key : ∀ (n : Nat) (g : Nat → Bool) (f : Nat → Value) (W : World), (todo.filter fun j => !g j).length = n → S W → Below w.heap.size w W → (∀ j ∈ todo, g j = true → phi φs todo j (f j) W) → (∀ j k, j ∈ A → k ∈ A → j ∈ todo → k ∈ todo → g j = true → g k = true → j ≠ k → f j ≠ f k) → (∀ j ∈ todo, g j = true → ∀ k ∈ pre j, k ∈ todo ∧ g k = true) →
      wpAnyT P md ops Q S T (m + n) (lset (todo.filter g) L0) (putAll f dl a0) W := by
    intro n
    induction n with
    | zero =>
      intro g f W hn hSW hB hf hne _
      have hall : ∀ j ∈ todo, g j = true := fun j hj => by
        have h0 := List.eq_nil_of_length_eq_zero hn
        have := List.filter_eq_nil_iff.1 h0 j hj
        simpa using this
      rw [List.filter_eq_self.2 hall]; exact hend f W hSW hB (fun j hj => hf j hj (hall j hj)) (fun j k ha hb hj hk => hne j k ha hb hj hk (hall j hj) (hall k hk))
    | succ n ih =>
      intro g f W hn hSW hB hf hnf hcl
      have hs := List.all_eq_true.1 hchk _ (filter_subs g todo)
      have hne : ((todo.filter g == todo) : Bool) = false := by
        rw [beq_eq_false_iff_ne]; intro e
        have hall := List.filter_eq_self.1 e
        have : (todo.filter fun j => !g j) = [] := List.filter_eq_nil_iff.2 (fun j hj => by simp [hall j hj])
        rw [this] at hn; simp at hn
      have hcl2 : ((todo.filter g).all fun i => (pre i).all fun j => (todo.filter g).contains j) = true := by
        simp only [List.all_eq_true, List.contains_iff_mem, List.mem_filter]
        exact fun i hi j hj => hcl i hi.1 hi.2 j hj
      rw [hne, hcl2, Bool.not_true, Bool.false_or, Bool.false_or, Bool.and_eq_true] at hs; obtain ⟨hr, hs⟩ := hs
      refine ⟨fun h0 => (by rw [h0] at hr; simp at hr), fun i hi => ?_⟩
      have hi2 := List.all_eq_true.1 hs i hi
      simp only [Bool.and_eq_true, List.contains_iff_mem, Bool.not_eq_true', List.all_eq_true] at hi2; obtain ⟨⟨hit, his⟩, hp⟩ := hi2
      have hgi : g i = false := by
        cases hg : g i with
        | false => rfl
        | true =>
          have : (todo.filter g).contains i = true := List.contains_iff_mem.2 (List.mem_filter.2 ⟨hit, hg⟩)
          rw [this] at his
          cases his
      obtain ⟨o, ho, H⟩ := hop i hit f W hSW hB (fun j hj => by
        have := List.mem_filter.1 (hp j hj)
        exact hf j this.1 this.2)
      obtain ⟨d, hdm, hdo⟩ := hds' i hit
      refine wpOp_step ho (fun K' hK => H K' (fun a' v W' ha hb hv hnw => hK _ _ ⟨fun _ => hSk _ _ hb hSW, ?_⟩))
      have hdst : o.dst = some d := by rw [← hdo]; simp [dstOf, ho]
      rw [ha, lset_step todo g hit, hdst, putAll_upd dl a0 hd (hT ▸ hnd) hdm]
      refine ih _ _ W' (by have := count_step hgi todo hnd hit; omega) (hSk _ _ hb hSW) (blw_trans hB hb) (fun j hj hgj => ?_) (fun j k haj hak hj hk hgj hgk hjk => ?_) (fun j hj hgj k hk => ?_)
      · by_cases hji : j = i
        · subst hji
          rw [show upd f j v j = v from if_pos rfl]
          exact hv
        · rw [show upd f i v j = f j from if_neg hji]
          refine (hΦ.out todo j).out _ _ _ hb (hf j hj ?_)
          simpa [hji] using hgj
      · by_cases hji : j = i
        · have hki : ¬ k = i := fun e => hjk (hji.trans e.symm)
          have hgk' : g k = true := by simpa [hki] using hgk
          rw [show upd f i v k = f k from if_neg hki, show upd f i v j = v from if_pos hji]
          exact (newP_ne (hnw (hji ▸ haj)) (hA k hak _ _ (hf k hk hgk'))).symm
        · have hgj' : g j = true := by simpa [hji] using hgj
          rw [show upd f i v j = f j from if_neg hji]
          by_cases hki : k = i
          · rw [show upd f i v k = v from if_pos hki]
            exact newP_ne (hnw (hki ▸ hak)) (hA j haj _ _ (hf j hj hgj'))
          · rw [show upd f i v k = f k from if_neg hki]
            exact hnf j k haj hak hj hk hgj' (by simpa [hki] using hgk) hjk
      · by_cases hji : j = i
        · subst hji
          have := List.mem_filter.1 (hp k hk)
          exact ⟨this.1, by simp [this.2]⟩
        · have := hcl j hj (by simpa [hji] using hgj) k hk
          exact ⟨this.1, by simp [this.2]⟩
  have h0 := key todo.length (fun _ => false) (slotOf a0 dl) w (by simp) hS (Below.refl _ _) (fun _ _ h => nomatch h) (fun _ _ _ _ _ _ h => nomatch h) (fun _ _ h => nomatch h)
  rw [putAll_self a0 dl (slotOf_eq a0 dl (hT ▸ hnd))] at h0
  have hnil : todo.filter (fun _ => false) = [] := List.filter_eq_nil_iff.2 (fun _ _ => by simp)
  rw [hnil] at h0; exact h0
theorem Ex.below {w W W' : World} {L : List Nat} (h : Below W.heap.size W W') (e : Ex w L W) : Ex w L W' :=
  have := Kp1.mk h
  inferInstance
end
def phiN (n k : Nat) (v : Value) (W : World) : Prop := ∃ a l c, v = .slice a l c ∧ CN W (.slice a l c) n k
def phiR (n k : Nat) (v : Value) (W : World) : Prop := ∃ a l c, v = .slice a l c ∧ CR W (.slice a l c) n k
def phiB (w0 : World) (t : TypeId) (l : List Value) (v : Value) (W : World) : Prop := ∃ b, v = .pointer (some ⟨b, 0, none⟩) ∧ Bx W b t l ∧ Ge w0 b ∧ Gg w0 b
instance {n k : Nat} : Last (phiN n k) := ⟨fun _ _ _ hb ⟨a, l, c, e, _⟩ => have := Kp1.mk hb; ⟨a, l, c, e, inferInstance⟩⟩
instance {n k : Nat} : Last (phiR n k) := ⟨fun _ _ _ hb ⟨a, l, c, e, _⟩ => have := Kp1.mk hb; ⟨a, l, c, e, inferInstance⟩⟩
instance {w0 : World} {t : TypeId} {l : List Value} : Last (phiB w0 t l) := ⟨fun _ _ _ hb ⟨b, e, _, h1, h2⟩ => have := Kp1.mk hb; ⟨b, e, inferInstance, h1, h2⟩⟩
def phiV (v0 v : Value) (_ : World) : Prop := v = v0
instance {v0 : Value} : Last (phiV v0) := ⟨fun _ _ _ _ e => e⟩
theorem phiB.fin {w0 W : World} {t : TypeId} {l : List Value} {b : Nat} [h : Bx W b t l] [h1 : Ge w0 b] [h2 : Gg w0 b] : phiB w0 t l (.pointer (some ⟨b, 0, none⟩)) W := ⟨b, rfl, h, h1, h2⟩
theorem phiB.old {w0 W : World} {t : TypeId} {l : List Value} {v : Value} (h : phiB w0 t l v W) : OldP v W := by
  obtain ⟨b, e, h, _, _⟩ := h; exact ⟨b, e, h.lt⟩
end
section
theorem ret_bt {P : Program} {fn : Func} {R : Ending → World → Prop} {a : Act} {W : World} {b : Nat} {p u : Tmp} {ty t : TypeId} {d : TypeDesc} {l l' : List Value} [hb : Bx W b t l] (hr : fn.results = #[.cell p ty, .tmp u])
    (hu : P.underlying ty = some d) (hd : (match d with | .struct _ | .array _ _ => true | _ => false) = true) (hi : (P.info? ty).map (·.size) = some l.length)
    (hp : a.tmps.getD p undef = .pointer (some ⟨b, 0, none⟩)) (hdf : a.defers = []) (hl : l = l') (hR : R (.returned (.tuple #[.agg l'.toArray, a.tmps.getD u undef])) W) : bodyPost P fn R .ret a W := by
  subst hl; exact ret_ct hr hp (loadVar_at W b ty l d hu hd hi (fun j hj => by rw [cell_bx, List.getElem?_eq_getElem hj])) hdf hR
def phiF (x : Rat) (k : Nat) (v : Value) (W : World) : Prop := ∃ n d p, v = .agg #[.int .i64 n, .int .i64 d, .pointer p] ∧ CF W (.agg #[.int .i64 n, .int .i64 d, .pointer p]) x k
instance {x : Rat} {k : Nat} : Last (phiF x k) := ⟨fun _ _ _ hb ⟨n, d, p, e, _⟩ => have := Kp1.mk hb; ⟨n, d, p, e, inferInstance⟩⟩
def phiS (w0 : World) (t : TypeId) (l : List Value) (n : Nat) (v : Value) (W : World) : Prop := ∃ b, v = .slice (some ⟨b, 0, none⟩) n n ∧ Bx W b t l ∧ Ge w0 b ∧ Gg w0 b
instance {w0 : World} {t : TypeId} {l : List Value} {n : Nat} : Last (phiS w0 t l n) := ⟨fun _ _ _ hb ⟨b, e, _, h1, h2⟩ => have := Kp1.mk hb; ⟨b, e, inferInstance, h1, h2⟩⟩
theorem phiS.fin {w0 W : World} {t : TypeId} {l : List Value} {n b : Nat} [h : Bx W b t l] [h1 : Ge w0 b] [h2 : Gg w0 b] : phiS w0 t l n (.slice (some ⟨b, 0, none⟩) n n) W := ⟨b, rfl, h, h1, h2⟩
theorem phiF.fin {x x' : Rat} {k k' : Nat} {n d : Int} {p : Option Addr} {W : World} [h : CF W (.agg #[.int .i64 n, .int .i64 d, .pointer p]) x' k'] (e : x' = x) (b : k' ≤ k) : phiF x k (.agg #[.int .i64 n, .int .i64 d, .pointer p]) W := ⟨n, d, p, rfl, h.cast e b⟩
def LFBRet (w : World) (x y z : Rat) (v : Bool) (k : Nat) (e : Ending) (w' : World) : Prop := ∃ nx dx px ny dy py nz dz pz, e = .returned (.tuple #[.agg #[.int .i64 nx, .int .i64 dx, .pointer px, .int .i64 ny, .int .i64 dy, .pointer py, .int .i64 nz, .int .i64 dz, .pointer pz], .bool v]) ∧ CF w' (.agg #[.int .i64 nx, .int .i64 dx, .pointer px]) x k ∧ CF w' (.agg #[.int .i64 ny, .int .i64 dy, .pointer py]) y k ∧ CF w' (.agg #[.int .i64 nz, .int .i64 dz, .pointer pz]) z k ∧ Below w.heap.size w w'
theorem Calls.cLFB {P : Program} {f : FuncId} {args : Array Value} {w : World} {x y z : Rat} {v : Bool} {k : Nat} {K : Ending → World → Prop} (h : Calls P f args w (LFBRet w x y z v k))
    (hK : ∀ w' [Kp1 w w'] (nx : Int) (dx : Int) (px : Option Addr) (ny : Int) (dy : Int) (py : Option Addr) (nz : Int) (dz : Int) (pz : Option Addr) [CF w' (.agg #[.int .i64 nx, .int .i64 dx, .pointer px]) x k] [CF w' (.agg #[.int .i64 ny, .int .i64 dy, .pointer py]) y k] [CF w' (.agg #[.int .i64 nz, .int .i64 dz, .pointer pz]) z k], K (.returned (.tuple #[.agg #[.int .i64 nx, .int .i64 dx, .pointer px, .int .i64 ny, .int .i64 dy, .pointer py, .int .i64 nz, .int .i64 dz, .pointer pz], .bool v])) w') : Calls P f args w K := by
  refine h.mono ?_
  rintro e w' ⟨nx, dx, px, ny, dy, py, nz, dz, pz, rfl, hx, hy, hz, hb⟩
  exact @hK w' ⟨hb⟩ nx dx px ny dy py nz dz pz hx hy hz
theorem LFBRet.fin {w w' : World} {v : Bool} {nx : Int} {dx : Int} {px : Option Addr} {ny : Int} {dy : Int} {py : Option Addr} {nz : Int} {dz : Int} {pz : Option Addr} {x x' : Rat} {kx : Nat} {y y' : Rat} {ky : Nat} {z z' : Rat} {kz : Nat} {k : Nat} [b : Kp w w'] [hx : CF w' (.agg #[.int .i64 nx, .int .i64 dx, .pointer px]) x kx] [hy : CF w' (.agg #[.int .i64 ny, .int .i64 dy, .pointer py]) y ky] [hz : CF w' (.agg #[.int .i64 nz, .int .i64 dz, .pointer pz]) z kz] (ex : x = x') (mx : kx ≤ k) (ey : y = y') (my : ky ≤ k) (ez : z = z') (mz : kz ≤ k) : LFBRet w x' y' z' v k (.returned (.tuple #[.agg #[.int .i64 nx, .int .i64 dx, .pointer px, .int .i64 ny, .int .i64 dy, .pointer py, .int .i64 nz, .int .i64 dz, .pointer pz], .bool v])) w' :=
  ⟨_, _, _, _, _, _, _, _, _, rfl, hx.cast ex mx, hy.cast ey my, hz.cast ez mz, b.out⟩
def LZBRet (w : World) (x y z : Int) (v : Bool) (k : Nat) (e : Ending) (w' : World) : Prop := ∃ gx ax lx cx gy ay ly cy gz az lz cz, e = .returned (.tuple #[.agg #[.bool gx, .slice ax lx cx, .bool gy, .slice ay ly cy, .bool gz, .slice az lz cz], .bool v]) ∧ CZ w' (.agg #[.bool gx, .slice ax lx cx]) x k ∧ CZ w' (.agg #[.bool gy, .slice ay ly cy]) y k ∧ CZ w' (.agg #[.bool gz, .slice az lz cz]) z k ∧ Below w.heap.size w w'
theorem Calls.cLZB {P : Program} {f : FuncId} {args : Array Value} {w : World} {x y z : Int} {v : Bool} {k : Nat} {K : Ending → World → Prop} (h : Calls P f args w (LZBRet w x y z v k))
    (hK : ∀ w' [Kp1 w w'] (gx : Bool) (ax : Option Addr) (lx : Nat) (cx : Nat) (gy : Bool) (ay : Option Addr) (ly : Nat) (cy : Nat) (gz : Bool) (az : Option Addr) (lz : Nat) (cz : Nat) [CZ w' (.agg #[.bool gx, .slice ax lx cx]) x k] [CZ w' (.agg #[.bool gy, .slice ay ly cy]) y k] [CZ w' (.agg #[.bool gz, .slice az lz cz]) z k], K (.returned (.tuple #[.agg #[.bool gx, .slice ax lx cx, .bool gy, .slice ay ly cy, .bool gz, .slice az lz cz], .bool v])) w') : Calls P f args w K := by
  refine h.mono ?_
  rintro e w' ⟨gx, ax, lx, cx, gy, ay, ly, cy, gz, az, lz, cz, rfl, hx, hy, hz, hb⟩
  exact @hK w' ⟨hb⟩ gx ax lx cx gy ay ly cy gz az lz cz hx hy hz
theorem LZBRet.fin {w w' : World} {v : Bool} {gx : Bool} {ax : Option Addr} {lx : Nat} {cx : Nat} {gy : Bool} {ay : Option Addr} {ly : Nat} {cy : Nat} {gz : Bool} {az : Option Addr} {lz : Nat} {cz : Nat} {x x' : Int} {kx : Nat} {y y' : Int} {ky : Nat} {z z' : Int} {kz : Nat} {k : Nat} [b : Kp w w'] [hx : CZ w' (.agg #[.bool gx, .slice ax lx cx]) x kx] [hy : CZ w' (.agg #[.bool gy, .slice ay ly cy]) y ky] [hz : CZ w' (.agg #[.bool gz, .slice az lz cz]) z kz] (ex : x = x') (mx : kx ≤ k) (ey : y = y') (my : ky ≤ k) (ez : z = z') (mz : kz ≤ k) : LZBRet w x' y' z' v k (.returned (.tuple #[.agg #[.bool gx, .slice ax lx cx, .bool gy, .slice ay ly cy, .bool gz, .slice az lz cz], .bool v])) w' :=
  ⟨_, _, _, _, _, _, _, _, _, _, _, _, rfl, hx.cast ex mx, hy.cast ey my, hz.cast ez mz, b.out⟩
def PFBRet (w : World) (x y : Rat) (v : Bool) (k : Nat) (e : Ending) (w' : World) : Prop := ∃ nx dx px ny dy py, e = .returned (.tuple #[.agg #[.int .i64 nx, .int .i64 dx, .pointer px, .int .i64 ny, .int .i64 dy, .pointer py], .bool v]) ∧ CF w' (.agg #[.int .i64 nx, .int .i64 dx, .pointer px]) x k ∧ CF w' (.agg #[.int .i64 ny, .int .i64 dy, .pointer py]) y k ∧ Below w.heap.size w w'
theorem Calls.cPFB {P : Program} {f : FuncId} {args : Array Value} {w : World} {x y : Rat} {v : Bool} {k : Nat} {K : Ending → World → Prop} (h : Calls P f args w (PFBRet w x y v k))
    (hK : ∀ w' [Kp1 w w'] (nx : Int) (dx : Int) (px : Option Addr) (ny : Int) (dy : Int) (py : Option Addr) [CF w' (.agg #[.int .i64 nx, .int .i64 dx, .pointer px]) x k] [CF w' (.agg #[.int .i64 ny, .int .i64 dy, .pointer py]) y k], K (.returned (.tuple #[.agg #[.int .i64 nx, .int .i64 dx, .pointer px, .int .i64 ny, .int .i64 dy, .pointer py], .bool v])) w') : Calls P f args w K := by
  refine h.mono ?_
  rintro e w' ⟨nx, dx, px, ny, dy, py, rfl, hx, hy, hb⟩
  exact @hK w' ⟨hb⟩ nx dx px ny dy py hx hy
theorem PFBRet.fin {w w' : World} {v : Bool} {nx : Int} {dx : Int} {px : Option Addr} {ny : Int} {dy : Int} {py : Option Addr} {x x' : Rat} {kx : Nat} {y y' : Rat} {ky : Nat} {k : Nat} [b : Kp w w'] [hx : CF w' (.agg #[.int .i64 nx, .int .i64 dx, .pointer px]) x kx] [hy : CF w' (.agg #[.int .i64 ny, .int .i64 dy, .pointer py]) y ky] (ex : x = x') (mx : kx ≤ k) (ey : y = y') (my : ky ≤ k) : PFBRet w x' y' v k (.returned (.tuple #[.agg #[.int .i64 nx, .int .i64 dx, .pointer px, .int .i64 ny, .int .i64 dy, .pointer py], .bool v])) w' :=
  ⟨_, _, _, _, _, _, rfl, hx.cast ex mx, hy.cast ey my, b.out⟩
instance (priority := low) CF.zz {W : World} : CF W (.agg #[.int .i64 0, .int .i64 0, .pointer none]) 0 2 := CF.zero (by omega)
theorem rZeroV {w : World} {v : Bool} {n1 d1 : Int} {p1 : Option Addr} {x : Rat} {k1 : Nat} [h1 : CF w (.agg #[.int .i64 n1, .int .i64 d1, .pointer p1]) x k1] (hv : Hid (decide (x = 0) = v)) :
    Calls Tryz.prog 225 #[.agg #[.int .i64 n1, .int .i64 d1, .pointer p1]] w (fun e w' => e = .returned (.bool v) ∧ Below w.heap.size w w') := by
  rw [← hv.out]; exact rZeroC
theorem makeOk {w : World} {n1 d1 n2 d2 n3 d3 : Int} {p1 p2 p3 : Option Addr} {x y z : Rat} {k1 k2 k3 : Nat} [h1 : CF w (.agg #[.int .i64 n1, .int .i64 d1, .pointer p1]) x k1] [h2 : CF w (.agg #[.int .i64 n2, .int .i64 d2, .pointer p2]) y k2] [h3 : CF w (.agg #[.int .i64 n3, .int .i64 d3, .pointer p3]) z k3] (b : k1 ≤ 10000 ∧ k2 ≤ 10000 ∧ k3 ≤ 10000) (h0 : Hid (¬ (x = 0 ∧ y = 0))) :
    Calls Tryz.prog 267 #[.agg #[.int .i64 n1, .int .i64 d1, .pointer p1], .agg #[.int .i64 n2, .int .i64 d2, .pointer p2], .agg #[.int .i64 n3, .int .i64 d3, .pointer p3]] w (LFBRet w (lnK x x y z) (lnK y x y z) (lnK z x y z) true (2 * (k1 + k2 + k3) + 60)) := by
  have hm : ∀ (v : Value) (W : World), (Go.method 500 147 v "Mul").run Tryz.prog W = .ok (213, v) W := fun _ _ => by kernel_rfl
  obtain ⟨u, hu⟩ : ∃ u, decide (x = 0) = u := ⟨_, rfl⟩; have HX := Lib.hid hu
  have HY : Hid (u = true → decide (y = 0) = false) := fun e => decide_eq_false (fun h => h0.out ⟨of_decide_eq_true (hu.trans e), h⟩)
  clear hu; go_enter Tryz.func267, Tryz.ntmps267
  go_upto_region 1 with fail
  go_cut [14] from 9 to 14 (fun t wx => t = .bool false ∧ Bx wx w.heap.size 147 [.int .i64 n1, .int .i64 d1, .pointer p1] ∧ Bx wx (w.heap.size + 1) 147 [.int .i64 n2, .int .i64 d2, .pointer p2] ∧ Bx wx (w.heap.size + 1 + 1) 147 [.int .i64 n3, .int .i64 d3, .pointer p3] ∧ Bx wx (w.heap.size + 1 + 1 + 1) 178 [.int .i64 0, .int .i64 0, .pointer none, .int .i64 0, .int .i64 0, .pointer none, .int .i64 0, .int .i64 0, .pointer none] ∧ CF wx (.agg #[.int .i64 n1, .int .i64 d1, .pointer p1]) x k1 ∧ CF wx (.agg #[.int .i64 n2, .int .i64 d2, .pointer p2]) y k2 ∧ CF wx (.agg #[.int .i64 n3, .int .i64 d3, .pointer p3]) z k3 ∧ Kp w wx)
  case first =>
    cases u with
    | true =>
      have HY' := Lib.hid (HY.out rfl)
      clear HY
      go_wp2_with (first
        | (go_at_call 225; (with_reducible refine Calls.cE (rZeroV HX) ?_); intros)
        | (go_at_call 225; (with_reducible refine Calls.cE (rZeroV HY') ?_); intros))
      go_meet; exact ⟨rfl, inferInstance, inferInstance, inferInstance, inferInstance, inferInstance, inferInstance, inferInstance, inferInstance⟩
    | false =>
      go_wp2_with (first
        | (go_at_call 225; (with_reducible refine Calls.cE (rZeroV HX) ?_); intros))
      go_meet; exact ⟨rfl, inferInstance, inferInstance, inferInstance, inferInstance, inferInstance, inferInstance, inferInstance, inferInstance⟩
  case rest =>
    obtain ⟨rfl, i1, i2, i3, i4, i5, i6, i7, i8⟩ := hcut; clear HX HY; go_wp2_with fail; refine rgn [] [] fun hH => ?_; refine tk 0 hH ?_; refine tk 1 hH ?_; refine tk 3 hH ?_; refine tk 6 hH ?_; refine tk 7 hH ?_; refine tk 8 hH ?_
    refine wpAnyT_inv [(2, 18), (4, 20), (5, 21), (9, 25)] (fun i => match i with | 2 => [] | 4 => [2] | 5 => [4] | 9 => [] | _ => []) [phiF (rgcd x y) (k1 + k2 + 6), phiF (rgcd (rgcd x y) z) (k1 + k2 + k3 + 12), phiF (rgcd (rgcd x y) z)⁻¹ (k1 + k2 + k3 + 14), phiS wc 147 [.int .i64 n1, .int .i64 d1, .pointer p1, .int .i64 n2, .int .i64 d2, .pointer p2, .int .i64 n3, .int .i64 d3, .pointer p3] 3] [] 2 (by rfl) (by decide +kernel) (by decide) (by decide) (by kernel_rfl) ?_ (fun _ _ => Ex.below) hH ?_ ?_
    · exact fun i hi => nomatch hi
    · intro i hi f W hSw hbw hp; have kw := Kp1.mk hbw
      have hSx := Ex1.mk hSw
      clear hH; simp only [List.map_cons, List.map_nil, List.mem_cons, List.not_mem_nil, or_false] at hi
      rcases hi with rfl | rfl | rfl | rfl
      · refine ⟨_, by simp; rfl, fun K' hK => ?_⟩
        clear hp; simp only [putAll, Act.put, List.setIfInBounds_toArray, List.set_cons_zero, List.set_cons_succ] at hK ⊢
        generalize f 2 = v2 at *
        generalize f 4 = v4 at *
        generalize f 5 = v5 at *
        generalize f 9 = v9 at *
        go_simp; (with_reducible refine Calls.cF (fracGcdC (by omega)) ?_); intros
        refine hK.out _ _ _ rfl (inferInstance : Kp W _).out ?_ ?_
        · exact phiF.fin rfl (by omega)
        · exact fun h => absurd h (by decide)
      · have h2 : phiF (rgcd x y) (k1 + k2 + 6) (f 2) W := hp 2 (by decide)
        refine ⟨_, by simp; rfl, fun K' hK => ?_⟩
        clear hp; simp only [putAll, Act.put, List.setIfInBounds_toArray, List.set_cons_zero, List.set_cons_succ] at hK ⊢
        generalize f 2 = v2 at *
        generalize f 4 = v4 at *
        generalize f 5 = v5 at *
        generalize f 9 = v9 at *
        obtain ⟨n2, d2, p2, rfl, i2⟩ := h2; go_simp; (with_reducible refine Calls.cF (fracGcdC (by omega)) ?_); intros
        refine hK.out _ _ _ rfl (inferInstance : Kp W _).out ?_ ?_
        · exact phiF.fin rfl (by omega)
        · exact fun h => absurd h (by decide)
      · have h4 : phiF (rgcd (rgcd x y) z) (k1 + k2 + k3 + 12) (f 4) W := hp 4 (by decide)
        refine ⟨_, by simp; rfl, fun K' hK => ?_⟩
        clear hp; simp only [putAll, Act.put, List.setIfInBounds_toArray, List.set_cons_zero, List.set_cons_succ] at hK ⊢
        generalize f 2 = v2 at *
        generalize f 4 = v4 at *
        generalize f 5 = v5 at *
        generalize f 9 = v9 at *
        obtain ⟨n4, d4, p4, rfl, i4⟩ := h4; go_simp; (with_reducible refine Calls.cF (rInvC (by omega)) ?_); intros
        refine hK.out _ _ _ rfl (inferInstance : Kp W _).out ?_ ?_
        · exact phiF.fin rfl (by omega)
        · exact fun h => absurd h (by decide)
      · refine ⟨_, by simp; rfl, fun K' hK => ?_⟩
        clear hp; simp only [putAll, Act.put, List.setIfInBounds_toArray, List.set_cons_zero, List.set_cons_succ] at hK ⊢
        generalize f 2 = v2 at *
        generalize f 4 = v4 at *
        generalize f 5 = v5 at *
        generalize f 9 = v9 at *
        go_simp
        refine hK.out _ _ _ rfl (inferInstance : Kp W _).out ?_ ?_
        · exact phiS.fin
        · exact fun h => absurd h (by decide)
    · intro f W hSw hbw hf hne; have kw := Kp1.mk hbw
      have hSx := Ex1.mk hSw
      clear hH
      have h2 : phiF (rgcd x y) (k1 + k2 + 6) (f 2) W := hf 2 (by decide)
      have h4 : phiF (rgcd (rgcd x y) z) (k1 + k2 + k3 + 12) (f 4) W := hf 4 (by decide)
      have h5 : phiF (rgcd (rgcd x y) z)⁻¹ (k1 + k2 + k3 + 14) (f 5) W := hf 5 (by decide)
      have h9 : phiS wc 147 [.int .i64 n1, .int .i64 d1, .pointer p1, .int .i64 n2, .int .i64 d2, .pointer p2, .int .i64 n3, .int .i64 d3, .pointer p3] 3 (f 9) W := hf 9 (by decide)
      clear hf hne; simp only [putAll, lset, List.map_cons, List.map_nil, Act.put, List.setIfInBounds_toArray, List.set_cons_zero, List.set_cons_succ]
      generalize f 2 = v2 at *
      generalize f 4 = v4 at *
      generalize f 5 = v5 at *
      generalize f 9 = v9 at *
      obtain ⟨n2, d2, p2, rfl, i2⟩ := h2; obtain ⟨n4, d4, p4, rfl, i4⟩ := h4; obtain ⟨n5, d5, p5, rfl, i5⟩ := h5; obtain ⟨b9, rfl, i9, j9, k9⟩ := h9
      have hl4 := Bx.lt (W := wc) (b := w.heap.size + 1 + 1 + 1) inferInstance
      have nn : NeN b9 (w.heap.size + 1 + 1 + 1) := ⟨by have h1 := j9.out; omega⟩
      clear hl4
      have gw : Ge w b9 := ⟨by have h1 := j9.out; have h2 := i8.out.size; omega⟩
      have hH := hSw
      refine st 10 fun K hK => ?_; go_simp; go_enter Tryz.func289, Tryz.ntmps289; go_wp2_with fail
      refine wp_loop_rounds 4 ?_
      rw [rounds_succ]; go_wp2_with fail; refine rgn [] [10] fun hH => ?_; refine tk 0 hH ?_; refine tk 1 hH ?_; refine tk 2 hH ?_; refine tk 3 hH ?_; refine tk 4 hH ?_; refine tk 5 hH ?_; refine tk 6 hH ?_; refine tk 7 hH ?_; refine st 8 fun K hK => ?_; go_simp
      (go_at_call 213; (with_reducible refine Calls.cF (rMulC (by omega)) ?_); intros)
      refine hd hK ?_; clear hH hK; intro hH; refine tk 9 hH ?_; refine st 10 fun K hK => ?_; go_simp; refine hdT hK ?_; clear hK K; refine dn ?_; clear hH; go_wp2_with fail; rw [rounds_succ]; go_wp2_with fail; refine rgn [] [10] fun hH => ?_; refine tk 0 hH ?_; refine tk 1 hH ?_; refine tk 2 hH ?_; refine tk 3 hH ?_; refine tk 4 hH ?_; refine tk 5 hH ?_; refine tk 6 hH ?_; refine tk 7 hH ?_; refine st 8 fun K hK => ?_; go_simp
      (go_at_call 213; (with_reducible refine Calls.cF (rMulC (by omega)) ?_); intros)
      refine hd hK ?_; clear hH hK; intro hH; refine tk 9 hH ?_; refine st 10 fun K hK => ?_; go_simp; refine hdT hK ?_; clear hK K; refine dn ?_; clear hH; go_wp2_with fail; rw [rounds_succ]; go_wp2_with fail; refine rgn [] [10] fun hH => ?_; refine tk 0 hH ?_; refine tk 1 hH ?_; refine tk 2 hH ?_; refine tk 3 hH ?_; refine tk 4 hH ?_; refine tk 5 hH ?_; refine tk 6 hH ?_; refine tk 7 hH ?_; refine st 8 fun K hK => ?_; go_simp
      (go_at_call 213; (with_reducible refine Calls.cF (rMulC (by omega)) ?_); intros)
      refine hd hK ?_; clear hH hK; intro hH; refine tk 9 hH ?_; refine st 10 fun K hK => ?_; go_simp; refine hdT hK ?_; clear hK K; refine dn ?_; clear hH; go_wp2_with fail; rw [rounds_succ]; go_wp2_with fail; go_simp; refine hd hK ?_; clear hH hK; intro hH; refine tk 11 hH ?_; refine dn ?_; clear hH; go_wp2_with fail; refine rgn [] [10, 11] fun hH => ?_; refine tk 0 hH ?_; refine tk 1 hH ?_; refine tk 2 hH ?_; refine tk 3 hH ?_; refine tk 4 hH ?_; refine tk 5 hH ?_; refine tk 6 hH ?_; refine tk 7 hH ?_; refine tk 8 hH ?_; refine tk 9 hH ?_; refine st 10 fun K hK => ?_; go_simp; refine hdT hK ?_; clear hK K; refine tk0 11 ?_; refine dn ?_; clear hH; go_wp2_with fail
      refine ret_bt rfl Tryz.underlying178 rfl (by kernel_rfl) rfl rfl rfl ?_
      exact LFBRet.fin rfl (by omega) rfl (by omega) rfl (by omega)
end
section
theorem rEqualV {w : World} {v : Bool} {n1 d1 n2 d2 : Int} {p1 p2 : Option Addr} {x y : Rat} {k1 k2 : Nat} [h1 : CF w (.agg #[.int .i64 n1, .int .i64 d1, .pointer p1]) x k1] [h2 : CF w (.agg #[.int .i64 n2, .int .i64 d2, .pointer p2]) y k2] (b : k1 ≤ 50000 ∧ k2 ≤ 50000) (hv : Hid (decide (x = y) = v)) :
    Calls Tryz.prog 167 #[.agg #[.int .i64 n1, .int .i64 d1, .pointer p1], .agg #[.int .i64 n2, .int .i64 d2, .pointer p2]] w (fun e w' => e = .returned (.bool v) ∧ Below w.heap.size w w') := by
  rw [← hv.out]; exact rEqualC (by omega)
end
section
def or3 (a b c : Int) : Int := if a = 0 then (if b = 0 then c else b) else a
def cmpL (a b c a' b' c' : Rat) : Int := or3 (isgn (a - a').num) (isgn (b - b').num) (isgn (c - c').num)
theorem cmpL_zero {a b c a' b' c' : Rat} : (cmpL a b c a' b' c' == 0) = decide (a = a' ∧ b = b' ∧ c = c') := by
  rw [Bool.eq_iff_iff, beq_iff_eq, decide_eq_true_eq]; unfold cmpL or3
  have e : ∀ x y : Rat, isgn (x - y).num = 0 ↔ x = y := fun x y => by
    have := @isgn_dec x y
    rw [Bool.eq_iff_iff, beq_iff_eq, decide_eq_true_eq] at this; exact this
  by_cases h1 : isgn (a - a').num = 0
  · rw [if_pos h1]
    by_cases h2 : isgn (b - b').num = 0
    · rw [if_pos h2, e]
      exact ⟨fun h => ⟨(e _ _).1 h1, (e _ _).1 h2, h⟩, fun h => h.2.2⟩
    · rw [if_neg h2]
      exact ⟨fun h => absurd h h2, fun h => absurd ((e _ _).2 h.2.1) h2⟩
  · rw [if_neg h1]
    exact ⟨fun h => absurd h h1, fun h => absurd ((e _ _).2 h.1) h1⟩
theorem or3C {w : World} {q : Nat} {a b c : Int} [h : Bx w q 3 [.int .i64 a, .int .i64 b, .int .i64 c]] : Calls Tryz.prog 293 #[.slice (some ⟨q, 0, none⟩) 3 3] w fun e w' => e = .returned (.int .i64 (or3 a b c)) ∧ Below w.heap.size w w' := by
  by_cases h0 : a = 0
  · subst h0
    by_cases h1 : b = 0
    · subst h1
      by_cases h2 : c = 0
      · subst h2
        have HE : Hid (or3 0 0 0 = 0) := by show _ = _; simp [or3]
        go_enter Tryz.func293, Tryz.ntmps293; go_wp2_with fail
        refine wp_loop_rounds 4 ?_
        rw [rounds_succ]; go_wp2_with fail; rw [rounds_succ]; go_wp2_with fail; rw [rounds_succ]; go_wp2_with fail; rw [rounds_succ]; go_wp2_with fail; go_ret
        exact E.fin (by rw [HE.out]; rfl)
      · have q2 : (c == 0) = false := by rw [beq_eq_false_iff_ne]; exact h2
        have HE : Hid (or3 0 0 c = c) := by show _ = _; simp [or3]
        go_enter Tryz.func293, Tryz.ntmps293; go_wp2_with fail
        refine wp_loop_rounds 3 ?_
        rw [rounds_succ]; go_wp2_with fail; rw [rounds_succ]; go_wp2_with fail; rw [rounds_succ]; go_wp2_with fail; go_ret
        exact E.fin (by rw [HE.out]; rfl)
    · have q1 : (b == 0) = false := by rw [beq_eq_false_iff_ne]; exact h1
      have HE : Hid (or3 0 b c = b) := by show _ = _; simp [or3, h1]
      go_enter Tryz.func293, Tryz.ntmps293; go_wp2_with fail
      refine wp_loop_rounds 2 ?_
      rw [rounds_succ]; go_wp2_with fail; rw [rounds_succ]; go_wp2_with fail; go_ret
      exact E.fin (by rw [HE.out]; rfl)
  · have q0 : (a == 0) = false := by rw [beq_eq_false_iff_ne]; exact h0
    have HE : Hid (or3 a b c = a) := by show _ = _; simp [or3, h0]
    go_enter Tryz.func293, Tryz.ntmps293; go_wp2_with fail
    refine wp_loop_rounds 1 ?_
    rw [rounds_succ]; go_wp2_with fail; go_ret
    exact E.fin (by rw [HE.out]; rfl)
theorem lnCmpC {w : World} {n1x d1x n1y d1y n1z d1z n2x d2x n2y d2y n2z d2z : Int} {p1x p1y p1z p2x p2y p2z : Option Addr} {la lb lc ma mb mc : Rat} {k1x k1y k1z k2x k2y k2z : Nat} [h1x : CF w (.agg #[.int .i64 n1x, .int .i64 d1x, .pointer p1x]) la k1x] [h1y : CF w (.agg #[.int .i64 n1y, .int .i64 d1y, .pointer p1y]) lb k1y] [h1z : CF w (.agg #[.int .i64 n1z, .int .i64 d1z, .pointer p1z]) lc k1z] [h2x : CF w (.agg #[.int .i64 n2x, .int .i64 d2x, .pointer p2x]) ma k2x] [h2y : CF w (.agg #[.int .i64 n2y, .int .i64 d2y, .pointer p2y]) mb k2y] [h2z : CF w (.agg #[.int .i64 n2z, .int .i64 d2z, .pointer p2z]) mc k2z] (b : k1x ≤ 40000 ∧ k1y ≤ 40000 ∧ k1z ≤ 40000 ∧ k2x ≤ 40000 ∧ k2y ≤ 40000 ∧ k2z ≤ 40000) :
    Calls Tryz.prog 275 #[.agg #[.int .i64 n1x, .int .i64 d1x, .pointer p1x, .int .i64 n1y, .int .i64 d1y, .pointer p1y, .int .i64 n1z, .int .i64 d1z, .pointer p1z], .agg #[.int .i64 n2x, .int .i64 d2x, .pointer p2x, .int .i64 n2y, .int .i64 d2y, .pointer p2y, .int .i64 n2z, .int .i64 d2z, .pointer p2z]] w (fun e w' => e = .returned (.int .i64 (cmpL la lb lc ma mb mc)) ∧ Below w.heap.size w w') := by
  go_enter Tryz.func275, Tryz.ntmps275; go_wp2_with fail; refine rgn [] [] fun hH => ?_; refine tk 0 hH ?_; refine tk 1 hH ?_; refine tk 2 hH ?_; refine tk 3 hH ?_; refine tk 5 hH ?_; refine tk 6 hH ?_; refine tk 7 hH ?_; refine tk 8 hH ?_; refine tk 10 hH ?_; refine tk 11 hH ?_; refine tk 12 hH ?_; refine tk 13 hH ?_; refine st 4 fun K hK => ?_; go_simp; (with_reducible refine Calls.cE (rCmpC (by omega)) ?_); intros; refine hd hK ?_; clear hH hK K; intro hH; refine st 9 fun K hK => ?_; go_simp; (with_reducible refine Calls.cE (rCmpC (by omega)) ?_); intros; refine hd hK ?_; clear hH hK K; intro hH; refine st 14 fun K hK => ?_; go_simp; (with_reducible refine Calls.cE (rCmpC (by omega)) ?_); intros; refine hd hK ?_; clear hH hK K; intro hH; refine st 15 fun K hK => ?_; go_simp; refine hd hK ?_; clear hH hK K; intro hH; refine st 16 fun K hK => ?_; go_simp; (with_reducible refine Calls.cE (or3C) ?_); intros; refine hd hK ?_; clear hH hK K; intro hH; refine tk 17 hH ?_; refine dn ?_; clear hH; go_wp2; go_ret; exact E.fin rfl
theorem lnEqualC {w : World} {n1x d1x n1y d1y n1z d1z n2x d2x n2y d2y n2z d2z : Int} {p1x p1y p1z p2x p2y p2z : Option Addr} {la lb lc ma mb mc : Rat} {k1x k1y k1z k2x k2y k2z : Nat} [h1x : CF w (.agg #[.int .i64 n1x, .int .i64 d1x, .pointer p1x]) la k1x] [h1y : CF w (.agg #[.int .i64 n1y, .int .i64 d1y, .pointer p1y]) lb k1y] [h1z : CF w (.agg #[.int .i64 n1z, .int .i64 d1z, .pointer p1z]) lc k1z] [h2x : CF w (.agg #[.int .i64 n2x, .int .i64 d2x, .pointer p2x]) ma k2x] [h2y : CF w (.agg #[.int .i64 n2y, .int .i64 d2y, .pointer p2y]) mb k2y] [h2z : CF w (.agg #[.int .i64 n2z, .int .i64 d2z, .pointer p2z]) mc k2z] (b : k1x ≤ 30000 ∧ k1y ≤ 30000 ∧ k1z ≤ 30000 ∧ k2x ≤ 30000 ∧ k2y ≤ 30000 ∧ k2z ≤ 30000) :
    Calls Tryz.prog 221 #[.agg #[.int .i64 n1x, .int .i64 d1x, .pointer p1x, .int .i64 n1y, .int .i64 d1y, .pointer p1y, .int .i64 n1z, .int .i64 d1z, .pointer p1z], .agg #[.int .i64 n2x, .int .i64 d2x, .pointer p2x, .int .i64 n2y, .int .i64 d2y, .pointer p2y, .int .i64 n2z, .int .i64 d2z, .pointer p2z]] w (fun e w' => e = .returned (.bool (decide (la = ma ∧ lb = mb ∧ lc = mc))) ∧ Below w.heap.size w w') := by
  have HE := Lib.hid (@cmpL_zero la lb lc ma mb mc); go_enter Tryz.func221, Tryz.ntmps221
  go_wp2_with (first
    | (go_at_call 275; (with_reducible refine Calls.cE (lnCmpC (by omega)) ?_); intros))
  go_ret
  exact E.fin (by rw [← HE.out]; rfl)
theorem lnEqualV {w : World} {v : Bool} {n1x d1x n1y d1y n1z d1z n2x d2x n2y d2y n2z d2z : Int} {p1x p1y p1z p2x p2y p2z : Option Addr} {la lb lc ma mb mc : Rat} {k1x k1y k1z k2x k2y k2z : Nat} [h1x : CF w (.agg #[.int .i64 n1x, .int .i64 d1x, .pointer p1x]) la k1x] [h1y : CF w (.agg #[.int .i64 n1y, .int .i64 d1y, .pointer p1y]) lb k1y] [h1z : CF w (.agg #[.int .i64 n1z, .int .i64 d1z, .pointer p1z]) lc k1z] [h2x : CF w (.agg #[.int .i64 n2x, .int .i64 d2x, .pointer p2x]) ma k2x] [h2y : CF w (.agg #[.int .i64 n2y, .int .i64 d2y, .pointer p2y]) mb k2y] [h2z : CF w (.agg #[.int .i64 n2z, .int .i64 d2z, .pointer p2z]) mc k2z] (b : k1x ≤ 30000 ∧ k1y ≤ 30000 ∧ k1z ≤ 30000 ∧ k2x ≤ 30000 ∧ k2y ≤ 30000 ∧ k2z ≤ 30000) (hv : Hid (decide (la = ma ∧ lb = mb ∧ lc = mc) = v)) :
    Calls Tryz.prog 221 #[.agg #[.int .i64 n1x, .int .i64 d1x, .pointer p1x, .int .i64 n1y, .int .i64 d1y, .pointer p1y, .int .i64 n1z, .int .i64 d1z, .pointer p1z], .agg #[.int .i64 n2x, .int .i64 d2x, .pointer p2x, .int .i64 n2y, .int .i64 d2y, .pointer p2y, .int .i64 n2z, .int .i64 d2z, .pointer p2z]] w (fun e w' => e = .returned (.bool v) ∧ Below w.heap.size w w') := by
  rw [← hv.out]; exact lnEqualC b
end
section
def phiQ (x : Rat) (k : Nat) (v : Value) (W : World) : Prop := ∃ g a l c aa ll cc, v = .agg #[.bool g, .slice a l c, .slice aa ll cc] ∧ CQ W (.agg #[.bool g, .slice a l c, .slice aa ll cc]) x k
instance {x : Rat} {k : Nat} : Last (phiQ x k) := ⟨fun _ _ _ hb ⟨g, a, l, c, aa, ll, cc, e, _⟩ => have := Kp1.mk hb; ⟨g, a, l, c, aa, ll, cc, e, inferInstance⟩⟩
theorem phiQ.fin {x x' : Rat} {k k' : Nat} {g : Bool} {a aa : Option Addr} {l c ll cc : Nat} {W : World} [h : CQ W (.agg #[.bool g, .slice a l c, .slice aa ll cc]) x' k'] (e : x' = x) (b : k' ≤ k) : phiQ x k (.agg #[.bool g, .slice a l c, .slice aa ll cc]) W := ⟨g, a, l, c, aa, ll, cc, rfl, h.cast e b⟩
abbrev thA (y1 y2 : Rat) : Rat := -(y2 - y1)
abbrev thC (x1 y1 x2 y2 : Rat) : Rat := -(-(y2 - y1) * x1 + (x2 - x1) * y1)
theorem lnV_num {a b : Rat} (c : Rat) (h : ¬ (a = 0 ∧ b = 0)) : LnV (lnK a a b c).num (lnK b a b c).num (lnK c a b c).num := by
  obtain ⟨A, B, C, h1, h2, h3, h4⟩ := lnK_valid (c := c) h; rw [← h1, ← h2, ← h3]; exact h4
theorem thr_num {a b c : Rat} (h : ¬ (a = 0 ∧ b = 0)) {M : Int} (hm : M = ((a.den * b.den * c.den : Nat) : Int)) : ¬ ((a * ((M : Int) : Rat)).num = 0 ∧ (b * ((M : Int) : Rat)).num = 0) ∧
    (a * ((M : Int) : Rat)).num / ((gcd3 (a * ((M : Int) : Rat)).num (b * ((M : Int) : Rat)).num (c * ((M : Int) : Rat)).num : Nat) : Int) = (lnK a a b c).num ∧
    (b * ((M : Int) : Rat)).num / ((gcd3 (a * ((M : Int) : Rat)).num (b * ((M : Int) : Rat)).num (c * ((M : Int) : Rat)).num : Nat) : Int) = (lnK b a b c).num ∧
    (c * ((M : Int) : Rat)).num / ((gcd3 (a * ((M : Int) : Rat)).num (b * ((M : Int) : Rat)).num (c * ((M : Int) : Rat)).num : Nat) : Int) = (lnK c a b c).num := by
  subst hm
  have hm : (0 : Rat) < (((a.den * b.den * c.den : Nat) : Int) : Rat) := by
    have : 0 < a.den * b.den * c.den := Nat.mul_pos (Nat.mul_pos a.den_pos b.den_pos) c.den_pos
    exact Rat.intCast_pos.2 (by omega)
  have ha := mulD_int a (m := a.den * b.den * c.den) ⟨b.den * c.den, by rw [Nat.mul_assoc]⟩
  have hb := mulD_int b (m := a.den * b.den * c.den) ⟨a.den * c.den, by rw [Nat.mul_comm a.den b.den, Nat.mul_assoc]⟩
  have hc := mulD_int c (m := a.den * b.den * c.den) ⟨a.den * b.den, by rw [Nat.mul_comm]⟩
  generalize (((a.den * b.den * c.den : Nat) : Int) : Rat) = m at *
  generalize (a * m).num = x at *
  generalize (b * m).num = y at *
  generalize (c * m).num = z at *
  have hxy : ¬ (x = 0 ∧ y = 0) := by
    rintro ⟨rfl, rfl⟩
    refine h ⟨?_, ?_⟩
    · rcases Rat.mul_eq_zero.1 (ha.trans rfl) with e | e
      · exact e
      · rw [e] at hm; exact absurd hm (by decide)
    · rcases Rat.mul_eq_zero.1 (hb.trans rfl) with e | e
      · exact e
      · rw [e] at hm; exact absurd hm (by decide)
  have hd := gcd3_dvd x y z
  refine ⟨hxy, ?_, ?_, ?_⟩
  · rw [← lnK_mul a a b c hm, ha, hb, hc, lnK_int hxy hd.1]; rfl
  · rw [← lnK_mul b a b c hm, ha, hb, hc, lnK_int hxy hd.2.1]; rfl
  · rw [← lnK_mul c a b c hm, ha, hb, hc, lnK_int hxy hd.2.2]; rfl
theorem Calls.cNpos {P : Program} {f : FuncId} {args : Array Value} {w : World} {n k : Nat} {K : Ending → World → Prop} (h : Calls P f args w (CNRet w n k)) (hn : n ≠ 0)
    (hK : ∀ w' [Kp1 w w'] (a : Option Addr) (l c : Nat) [CN w' (.slice a l c) n k], ((l : Int) == 0) = false → K (.returned (.slice a l c)) w') : Calls P f args w K := by
  refine h.mono ?_
  rintro e w' ⟨a, l, c, rfl, hx, hb⟩
  refine @hK w' ⟨hb⟩ a l c hx ?_
  rw [beq_eq_false_iff_ne, hx.out.len]
  have := nf_len_pos hn
  omega
theorem gcd3_nat (a b c : Int) : gcd3 a b c ∣ a.natAbs ∧ gcd3 a b c ∣ b.natAbs ∧ gcd3 a b c ∣ c.natAbs :=
  ⟨Nat.dvd_trans (Nat.gcd_dvd_left _ _) (Nat.gcd_dvd_left _ _), Nat.dvd_trans (Nat.gcd_dvd_left _ _) (Nat.gcd_dvd_right _ _), Nat.gcd_dvd_right _ _⟩
theorem gThroughOk {w : World} {n1x d1x n1y d1y n2x d2x n2y d2y : Int} {p1x p1y p2x p2y : Option Addr} {x1 y1 x2 y2 : Rat} {k1x k1y k2x k2y : Nat} [h1x : CF w (.agg #[.int .i64 n1x, .int .i64 d1x, .pointer p1x]) x1 k1x] [h1y : CF w (.agg #[.int .i64 n1y, .int .i64 d1y, .pointer p1y]) y1 k1y] [h2x : CF w (.agg #[.int .i64 n2x, .int .i64 d2x, .pointer p2x]) x2 k2x] [h2y : CF w (.agg #[.int .i64 n2y, .int .i64 d2y, .pointer p2y]) y2 k2y] (b : k1x ≤ 600 ∧ k1y ≤ 600 ∧ k2x ≤ 600 ∧ k2y ≤ 600) (h0 : Hid (¬ (thA y1 y2 = 0 ∧ x2 - x1 = 0))) :
    Calls Tryz.prog 207 #[.agg #[.int .i64 n1x, .int .i64 d1x, .pointer p1x, .int .i64 n1y, .int .i64 d1y, .pointer p1y], .agg #[.int .i64 n2x, .int .i64 d2x, .pointer p2x, .int .i64 n2y, .int .i64 d2y, .pointer p2y]] w (LFBRet w (lnK (thA y1 y2) (thA y1 y2) (x2 - x1) (thC x1 y1 x2 y2)) (lnK (x2 - x1) (thA y1 y2) (x2 - x1) (thC x1 y1 x2 y2)) (lnK (thC x1 y1 x2 y2) (thA y1 y2) (x2 - x1) (thC x1 y1 x2 y2)) true (20 * (k1x + k1y + k2x + k2y) + 200)) := by
  go_enter Tryz.func207, Tryz.ntmps207
  go_wp2_with (first
    | (go_at_call 170; (with_reducible refine Calls.cPF (ptSubC (by omega)) ?_); intros)
    | (go_at_call 266; (with_reducible refine Calls.cPF (turnC (by omega)) ?_); intros))
  refine rgn [w.heap.size + 1 + 1] [] fun hH => ?_; refine tk 0 hH ?_; refine tk 1 hH ?_; refine tk 2 hH ?_; refine tk 3 hH ?_; refine tk 4 hH ?_; refine tk 5 hH ?_; refine st 6 fun K hK => ?_; go_simp; (with_reducible refine Calls.cF (gDotC (by omega)) ?_); intros; refine hd hK ?_; clear hH hK K; intro hH; refine st 7 fun K hK => ?_; go_simp; (with_reducible refine Calls.cF (rNegC (by omega)) ?_); intros; refine hd hK ?_; clear hH hK K; intro hH; refine st 8 fun K hK => ?_; go_simp; (with_reducible refine Calls.cLFB (makeOk (by omega) h0) ?_); intros; refine hd hK ?_; clear hH hK K; intro hH; refine tk 9 hH ?_; refine tk 10 hH ?_; refine st 11 fun K hK => ?_; go_simp; refine hd hK ?_; clear hH hK K; intro hH; refine tk 12 hH ?_; refine dn ?_; clear hH; go_wp2_with fail
  refine ret_bt rfl Tryz.underlying178 rfl (by kernel_rfl) rfl rfl rfl ?_
  exact LFBRet.fin rfl (by omega) rfl (by omega) rfl (by omega)
theorem refMakeOk {w : World} {g1 g2 g3 : Bool} {a1 a2 a3 : Option Addr} {l1 c1 l2 c2 l3 c3 k1 k2 k3 : Nat} {x y z : Int} [h1 : CZ w (.agg #[.bool g1, .slice a1 l1 c1]) x k1] [h2 : CZ w (.agg #[.bool g2, .slice a2 l2 c2]) y k2] [h3 : CZ w (.agg #[.bool g3, .slice a3 l3 c3]) z k3] (b : k1 ≤ 50000 ∧ k2 ≤ 50000 ∧ k3 ≤ 50000) (h0 : Hid (¬ (x = 0 ∧ y = 0))) :
    Calls Tryz.prog 218 #[.agg #[.bool g1, .slice a1 l1 c1], .agg #[.bool g2, .slice a2 l2 c2], .agg #[.bool g3, .slice a3 l3 c3]] w (LZBRet w (x / ((gcd3 x y z : Nat) : Int)) (y / ((gcd3 x y z : Nat) : Int)) (z / ((gcd3 x y z : Nat) : Int)) true (max k1 (max k2 k3) + 4)) := by
  have z1 := zz_of h1
  have z2 := zz_of h2
  have z3 := zz_of h3
  have n1 : CN w (.slice a1 l1 c1) x.natAbs k1 := ⟨z1.2⟩
  have n2 : CN w (.slice a2 l2 c2) y.natAbs k2 := ⟨z2.2⟩
  have n3 : CN w (.slice a3 l3 c3) z.natAbs k3 := ⟨z3.2⟩
  have hg : Nat.gcd x.natAbs y.natAbs ≠ 0 := by
    intro e; obtain ⟨e1, e2⟩ := Nat.gcd_eq_zero_iff.1 e; exact h0.out ⟨Int.natAbs_eq_zero.1 e1, Int.natAbs_eq_zero.1 e2⟩
  have hg3 : Nat.gcd (Nat.gcd x.natAbs y.natAbs) z.natAbs ≠ 0 := fun e => hg (Nat.gcd_eq_zero_iff.1 e).1
  have HS1 : Hid (sgn g1 (x.natAbs / Nat.gcd (Nat.gcd x.natAbs y.natAbs) z.natAbs) = x / ((gcd3 x y z : Nat) : Int)) := sgn_div z1.1 (gcd3_nat x y z).1
  have HS2 : Hid (sgn g2 (y.natAbs / Nat.gcd (Nat.gcd x.natAbs y.natAbs) z.natAbs) = y / ((gcd3 x y z : Nat) : Int)) := sgn_div z2.1 (gcd3_nat x y z).2.1
  have HS3 : Hid (sgn g3 (z.natAbs / Nat.gcd (Nat.gcd x.natAbs y.natAbs) z.natAbs) = z / ((gcd3 x y z : Nat) : Int)) := sgn_div z3.1 (gcd3_nat x y z).2.2
  clear z1 z2 z3; go_enter Tryz.func218, Tryz.ntmps218
  go_wp2_with (first
    | (go_at_call 138; (with_reducible refine Calls.cNpos (commonC (m := x.natAbs) (n := y.natAbs) (by omega)) hg ?_); intros)
    | (go_at_call 138; (with_reducible refine Calls.cN (commonC (by omega)) ?_); intros)
    | (go_at_call 140; (with_reducible refine Calls.cQR (divideC (by omega) hg3) ?_); intros))
  refine rgn [w.heap.size + 1 + 1 + 1] [] fun hH => ?_; refine tk 0 hH ?_; refine tk 1 hH ?_; refine tk 2 hH ?_; refine tk 4 hH ?_; refine tk 5 hH ?_; refine tk 6 hH ?_; refine tk 8 hH ?_; refine tk 9 hH ?_; refine tk 10 hH ?_; refine st 3 fun K hK => ?_; go_simp; (with_reducible refine Calls.cSg (makeC) ?_); intros; refine hd hK ?_; clear hH hK K; intro hH; refine st 7 fun K hK => ?_; go_simp; (with_reducible refine Calls.cSg (makeC) ?_); intros; refine hd hK ?_; clear hH hK K; intro hH; refine st 11 fun K hK => ?_; go_simp; (with_reducible refine Calls.cSg (makeC) ?_); intros; refine hd hK ?_; clear hH hK K; intro hH; refine tk 12 hH ?_; refine st 13 fun K hK => ?_; go_simp; refine hd hK ?_; clear hH hK K; intro hH; refine tk 14 hH ?_; refine dn ?_; clear hH; go_wp2_with fail
  refine ret_bt rfl Tryz.underlying163 rfl (by kernel_rfl) rfl rfl rfl ?_
  exact LZBRet.fin HS1.out (by omega) HS2.out (by omega) HS3.out (by omega)
end
section
theorem Calls.cQz {P : Program} {f : FuncId} {args : Array Value} {w : World} {x : Rat} {k : Nat} {K : Ending → World → Prop} (h : Calls P f args w (CQRet w x k))
    (hK : ∀ w' [Kp1 w w'] (g : Bool) (a : Option Addr) (l c : Nat) (aa : Option Addr) (ll cc : Nat) [CQ w' (.agg #[.bool g, .slice a l c, .slice aa ll cc]) x k] [CZ w' (.agg #[.bool g, .slice a l c]) x.num k], K (.returned (.agg #[.bool g, .slice a l c, .slice aa ll cc])) w') : Calls P f args w K := by
  refine h.mono ?_
  rintro e w' ⟨g, a, l, c, aa, ll, cc, rfl, hx, hb⟩
  exact @hK w' ⟨hb⟩ g a l c aa ll cc hx hx.num
theorem refThroughOk {w : World} {g1x g1y g2x g2y : Bool} {a1x aa1x a1y aa1y a2x aa2x a2y aa2y : Option Addr} {l1x c1x ll1x cc1x l1y c1y ll1y cc1y l2x c2x ll2x cc2x l2y c2y ll2y cc2y k1x k1y k2x k2y : Nat} {x1 y1 x2 y2 : Rat} [h1x : CQ w (.agg #[.bool g1x, .slice a1x l1x c1x, .slice aa1x ll1x cc1x]) x1 k1x] [h1y : CQ w (.agg #[.bool g1y, .slice a1y l1y c1y, .slice aa1y ll1y cc1y]) y1 k1y] [h2x : CQ w (.agg #[.bool g2x, .slice a2x l2x c2x, .slice aa2x ll2x cc2x]) x2 k2x] [h2y : CQ w (.agg #[.bool g2y, .slice a2y l2y c2y, .slice aa2y ll2y cc2y]) y2 k2y] (b : k1x ≤ 100 ∧ k1y ≤ 100 ∧ k2x ≤ 100 ∧ k2y ≤ 100) (h0 : Hid (¬ (thA y1 y2 = 0 ∧ x2 - x1 = 0))) :
    Calls Tryz.prog 160 #[.agg #[.bool g1x, .slice a1x l1x c1x, .slice aa1x ll1x cc1x, .bool g1y, .slice a1y l1y c1y, .slice aa1y ll1y cc1y], .agg #[.bool g2x, .slice a2x l2x c2x, .slice aa2x ll2x cc2x, .bool g2y, .slice a2y l2y c2y, .slice aa2y ll2y cc2y]] w (LZBRet w ((lnK (thA y1 y2) (thA y1 y2) (x2 - x1) (thC x1 y1 x2 y2))).num ((lnK (x2 - x1) (thA y1 y2) (x2 - x1) (thC x1 y1 x2 y2))).num ((lnK (thC x1 y1 x2 y2) (thA y1 y2) (x2 - x1) (thC x1 y1 x2 y2))).num true (10 * (max k1x k1y + max k2x k2y + 12) + 200)) := by
  go_enter Tryz.func160, Tryz.ntmps160
  go_upto_region 1 with fail
  go_cut [6] from 12 to 14 (fun s wx => ∃ (b6 : Nat) (gX : Bool) (aX : Option Addr) (lX cX : Nat) (aaX : Option Addr) (llX ccX : Nat) (gY : Bool) (aY : Option Addr) (lY cY : Nat) (aaY : Option Addr) (llY ccY : Nat), s = .pointer (some ⟨b6, 0, none⟩) ∧ Bx wx b6 47 [.bool gX, .slice aX lX cX, .slice aaX llX ccX, .bool gY, .slice aY lY cY, .slice aaY llY ccY] ∧ CQ wx (.agg #[.bool gX, .slice aX lX cX, .slice aaX llX ccX]) (x2 - x1) (max k1x k1y + max k2x k2y + 12) ∧ CQ wx (.agg #[.bool gY, .slice aY lY cY, .slice aaY llY ccY]) (y2 - y1) (max k1x k1y + max k2x k2y + 12) ∧ Bx wx w.heap.size 47 [.bool g1x, .slice a1x l1x c1x, .slice aa1x ll1x cc1x, .bool g1y, .slice a1y l1y c1y, .slice aa1y ll1y cc1y] ∧ Bx wx (w.heap.size + 1 + 1) 163 [.bool false, .slice none 0 0, .bool false, .slice none 0 0, .bool false, .slice none 0 0] ∧ CQ wx (.agg #[.bool g1x, .slice a1x l1x c1x, .slice aa1x ll1x cc1x]) x1 k1x ∧ CQ wx (.agg #[.bool g1y, .slice a1y l1y c1y, .slice aa1y ll1y cc1y]) y1 k1y ∧ Kp w wx)
  case first =>
    go_wp2_with (first
    | (go_at_call 178; (with_reducible refine Calls.cPQ (refPSubC (by omega)) ?_); intros))
    go_meet; exact ⟨_, _, _, _, _, _, _, _, _, _, _, _, _, _, _, rfl, inferInstance, CQ.cast inferInstance rfl (by omega), CQ.cast inferInstance rfl (by omega), inferInstance, inferInstance, inferInstance, inferInstance, inferInstance⟩
  case rest =>
    obtain ⟨b6, gX, aX, lX, cX, aaX, llX, ccX, gY, aY, lY, cY, aaY, llY, ccY, rfl, i1, i2, i3, i4, i5, i6, i7, i8⟩ := hcut
    go_upto_region 2 with fail
    go_cut [7, 8] from 15 to 19 (fun p q wx => ∃ (b7 b8 : Nat) (gA : Bool) (aA : Option Addr) (lA cA : Nat) (aaA : Option Addr) (llA ccA : Nat), p = .pointer (some ⟨b7, 0, none⟩) ∧ q = .pointer (some ⟨b8, 0, none⟩) ∧ Bx wx b7 45 [.bool gA, .slice aA lA cA, .slice aaA llA ccA] ∧ Bx wx b8 45 [.bool gX, .slice aX lX cX, .slice aaX llX ccX] ∧ CQ wx (.agg #[.bool gA, .slice aA lA cA, .slice aaA llA ccA]) (thA y1 y2) (max k1x k1y + max k2x k2y + 12) ∧ Kp wc wx)
    case first =>
      refine rgn [] [] fun hH => ?_; refine tk 0 hH ?_; refine tk 1 hH ?_; refine tk 3 hH ?_; refine tk 4 hH ?_
      refine wpAnyT_inv [(2, 17), (5, 7), (6, 8)] (fun i => match i with | 2 => [] | 5 => [] | 6 => [] | _ => []) [phiQ (thA y1 y2) (max k1x k1y + max k2x k2y + 12), phiB wc 45 [.bool false, .slice none 0 0, .slice none 0 0], phiB wc 45 [.bool false, .slice none 0 0, .slice none 0 0]] [5, 6] 2 (by rfl) (by decide +kernel) (by decide) (by decide) (by kernel_rfl) ?_ (fun _ _ => Ex.below) hH ?_ ?_
      · intro i hi v W h; simp only [List.mem_cons, List.not_mem_nil, or_false] at hi
        rcases hi with rfl | rfl
        all_goals exact phiB.old h
      · intro i hi f W hSw hbw hp; have kw := Kp1.mk hbw
        have hSx := Ex1.mk hSw
        clear hH; simp only [List.map_cons, List.map_nil, List.mem_cons, List.not_mem_nil, or_false] at hi
        rcases hi with rfl | rfl | rfl
        · refine ⟨_, by simp; rfl, fun K' hK => ?_⟩
          clear hp; simp only [putAll, Act.put, List.setIfInBounds_toArray, List.set_cons_zero, List.set_cons_succ] at hK ⊢
          generalize f 2 = v2 at *
          generalize f 5 = v5 at *
          generalize f 6 = v6 at *
          go_simp; (with_reducible refine Calls.cQ (numOppC) ?_); intros
          refine hK.out _ _ _ rfl (inferInstance : Kp W _).out ?_ ?_
          · exact phiQ.fin rfl (by omega)
          · exact fun h => absurd h (by decide)
        · refine ⟨_, by simp; rfl, fun K' hK => ?_⟩
          clear hp; simp only [putAll, Act.put, List.setIfInBounds_toArray, List.set_cons_zero, List.set_cons_succ] at hK ⊢
          generalize f 2 = v2 at *
          generalize f 5 = v5 at *
          generalize f 6 = v6 at *
          go_simp
          refine hK.out _ _ _ rfl (inferInstance : Kp W _).out ?_ ?_
          · exact phiB.fin
          · exact fun _ => ⟨_, rfl, Nat.le_refl _⟩
        · refine ⟨_, by simp; rfl, fun K' hK => ?_⟩
          clear hp; simp only [putAll, Act.put, List.setIfInBounds_toArray, List.set_cons_zero, List.set_cons_succ] at hK ⊢
          generalize f 2 = v2 at *
          generalize f 5 = v5 at *
          generalize f 6 = v6 at *
          go_simp
          refine hK.out _ _ _ rfl (inferInstance : Kp W _).out ?_ ?_
          · exact phiB.fin
          · exact fun _ => ⟨_, rfl, Nat.le_refl _⟩
      · intro f W hSw hbw hf hne; have kw := Kp1.mk hbw
        have hSx := Ex1.mk hSw
        clear hH
        have h2 : phiQ (thA y1 y2) (max k1x k1y + max k2x k2y + 12) (f 2) W := hf 2 (by decide)
        have h5 : phiB wc 45 [.bool false, .slice none 0 0, .slice none 0 0] (f 5) W := hf 5 (by decide)
        have h6 : phiB wc 45 [.bool false, .slice none 0 0, .slice none 0 0] (f 6) W := hf 6 (by decide)
        have n5_6 := hne 5 6 (by decide) (by decide) (by decide) (by decide) (by decide)
        clear hf hne; simp only [putAll, lset, List.map_cons, List.map_nil, Act.put, List.setIfInBounds_toArray, List.set_cons_zero, List.set_cons_succ]
        generalize f 2 = v2 at *
        generalize f 5 = v5 at *
        generalize f 6 = v6 at *
        obtain ⟨g2, a2, l2, c2, aa2, ll2, cc2, rfl, i2⟩ := h2; obtain ⟨b5, rfl, i5, j5, k5⟩ := h5; obtain ⟨b6, rfl, i6, j6, k6⟩ := h6
        have n5_6 := ptr_ne n5_6
        have n6_5 : NeN b6 b5 := ⟨fun e => n5_6.out e.symm⟩
        have hH := hSw
        refine st 7 fun K hK => ?_; go_simp; refine hd hK ?_; clear hH hK K; intro hH; refine st 8 fun K hK => ?_; go_simp; refine hd hK ?_; clear hH hK K; intro hH; refine dn ?_; clear hH; go_wp2_with fail; go_meet; exact ⟨_, _, _, _, _, _, _, _, _, rfl, rfl, inferInstance, inferInstance, inferInstance, inferInstance⟩
    case rest =>
      obtain ⟨b7, b8, gA, aA, lA, cA, aaA, llA, ccA, rfl, rfl, m1, m2, m3, ⟨m4⟩⟩ := hcut; have m5 := Kp1.mk m4
      have m6 : Kp w wc := inferInstance
      go_upto_region 3 with fail
      go_cut [9] from 20 to 29 (fun p wx => ∃ (b9 : Nat) (gC : Bool) (aC : Option Addr) (lC cC : Nat) (aaC : Option Addr) (llC ccC : Nat), p = .pointer (some ⟨b9, 0, none⟩) ∧ Bx wx b9 45 [.bool gC, .slice aC lC cC, .slice aaC llC ccC] ∧ CQ wx (.agg #[.bool gC, .slice aC lC cC, .slice aaC llC ccC]) (thC x1 y1 x2 y2) (4 * (max k1x k1y + max k2x k2y + 12) + 40) ∧ Kp wc wx)
      case first =>
        refine rgn [] [] fun hH => ?_; refine tk 0 hH ?_; refine tk 1 hH ?_; refine tk 2 hH ?_; refine tk 4 hH ?_; refine tk 5 hH ?_; refine tk 6 hH ?_
        refine wpAnyT_inv [(3, 23), (7, 27), (8, 28), (9, 29), (10, 9)] (fun i => match i with | 3 => [] | 7 => [3] | 8 => [3, 7] | 9 => [8] | 10 => [] | _ => []) [phiQ (thA y1 y2 * x1) ((max k1x k1y + max k2x k2y + 12) + k1x + 5), phiQ ((x2 - x1) * y1) ((max k1x k1y + max k2x k2y + 12) + k1y + 5), phiQ (thA y1 y2 * x1 + (x2 - x1) * y1) (2 * (max k1x k1y + max k2x k2y + 12) + k1x + k1y + 15), phiQ (thC x1 y1 x2 y2) (4 * (max k1x k1y + max k2x k2y + 12) + 40), phiB wc 45 [.bool false, .slice none 0 0, .slice none 0 0]] [10] 1 (by rfl) (by decide +kernel) (by decide) (by decide) (by kernel_rfl) ?_ (fun _ _ => Ex.below) hH ?_ ?_
        · intro i hi v W h; simp only [List.mem_cons, List.not_mem_nil, or_false] at hi
          rcases hi with rfl
          all_goals exact phiB.old h
        · intro i hi f W hSw hbw hp; have kw := Kp1.mk hbw
          have hSx := Ex1.mk hSw
          clear hH; simp only [List.map_cons, List.map_nil, List.mem_cons, List.not_mem_nil, or_false] at hi
          rcases hi with rfl | rfl | rfl | rfl | rfl
          · refine ⟨_, by simp; rfl, fun K' hK => ?_⟩
            clear hp; simp only [putAll, Act.put, List.setIfInBounds_toArray, List.set_cons_zero, List.set_cons_succ] at hK ⊢
            generalize f 3 = v3 at *
            generalize f 7 = v7 at *
            generalize f 8 = v8 at *
            generalize f 9 = v9 at *
            generalize f 10 = v10 at *
            go_simp; (with_reducible refine Calls.cQ (numTimesC (by omega)) ?_); intros
            refine hK.out _ _ _ rfl (inferInstance : Kp W _).out ?_ ?_
            · exact phiQ.fin rfl (by omega)
            · exact fun h => absurd h (by decide)
          · have h3 : phiQ (thA y1 y2 * x1) ((max k1x k1y + max k2x k2y + 12) + k1x + 5) (f 3) W := hp 3 (by decide)
            refine ⟨_, by simp; rfl, fun K' hK => ?_⟩
            clear hp; simp only [putAll, Act.put, List.setIfInBounds_toArray, List.set_cons_zero, List.set_cons_succ] at hK ⊢
            generalize f 3 = v3 at *
            generalize f 7 = v7 at *
            generalize f 8 = v8 at *
            generalize f 9 = v9 at *
            generalize f 10 = v10 at *
            obtain ⟨g3, a3, l3, c3, aa3, ll3, cc3, rfl, i3⟩ := h3; go_simp; (with_reducible refine Calls.cQ (numTimesC (by omega)) ?_); intros
            refine hK.out _ _ _ rfl (inferInstance : Kp W _).out ?_ ?_
            · exact phiQ.fin rfl (by omega)
            · exact fun h => absurd h (by decide)
          · have h3 : phiQ (thA y1 y2 * x1) ((max k1x k1y + max k2x k2y + 12) + k1x + 5) (f 3) W := hp 3 (by decide)
            have h7 : phiQ ((x2 - x1) * y1) ((max k1x k1y + max k2x k2y + 12) + k1y + 5) (f 7) W := hp 7 (by decide)
            refine ⟨_, by simp; rfl, fun K' hK => ?_⟩
            clear hp; simp only [putAll, Act.put, List.setIfInBounds_toArray, List.set_cons_zero, List.set_cons_succ] at hK ⊢
            generalize f 3 = v3 at *
            generalize f 7 = v7 at *
            generalize f 8 = v8 at *
            generalize f 9 = v9 at *
            generalize f 10 = v10 at *
            obtain ⟨g3, a3, l3, c3, aa3, ll3, cc3, rfl, i3⟩ := h3; obtain ⟨g7, a7, l7, c7, aa7, ll7, cc7, rfl, i7⟩ := h7; go_simp; (with_reducible refine Calls.cQ (numPlusC (by omega)) ?_); intros
            refine hK.out _ _ _ rfl (inferInstance : Kp W _).out ?_ ?_
            · exact phiQ.fin rfl (by omega)
            · exact fun h => absurd h (by decide)
          · have h8 : phiQ (thA y1 y2 * x1 + (x2 - x1) * y1) (2 * (max k1x k1y + max k2x k2y + 12) + k1x + k1y + 15) (f 8) W := hp 8 (by decide)
            refine ⟨_, by simp; rfl, fun K' hK => ?_⟩
            clear hp; simp only [putAll, Act.put, List.setIfInBounds_toArray, List.set_cons_zero, List.set_cons_succ] at hK ⊢
            generalize f 3 = v3 at *
            generalize f 7 = v7 at *
            generalize f 8 = v8 at *
            generalize f 9 = v9 at *
            generalize f 10 = v10 at *
            obtain ⟨g8, a8, l8, c8, aa8, ll8, cc8, rfl, i8⟩ := h8; go_simp; (with_reducible refine Calls.cQ (numOppC) ?_); intros
            refine hK.out _ _ _ rfl (inferInstance : Kp W _).out ?_ ?_
            · exact phiQ.fin rfl (by omega)
            · exact fun h => absurd h (by decide)
          · refine ⟨_, by simp; rfl, fun K' hK => ?_⟩
            clear hp; simp only [putAll, Act.put, List.setIfInBounds_toArray, List.set_cons_zero, List.set_cons_succ] at hK ⊢
            generalize f 3 = v3 at *
            generalize f 7 = v7 at *
            generalize f 8 = v8 at *
            generalize f 9 = v9 at *
            generalize f 10 = v10 at *
            go_simp
            refine hK.out _ _ _ rfl (inferInstance : Kp W _).out ?_ ?_
            · exact phiB.fin
            · exact fun _ => ⟨_, rfl, Nat.le_refl _⟩
        · intro f W hSw hbw hf hne; have kw := Kp1.mk hbw
          have hSx := Ex1.mk hSw
          clear hH
          have h3 : phiQ (thA y1 y2 * x1) ((max k1x k1y + max k2x k2y + 12) + k1x + 5) (f 3) W := hf 3 (by decide)
          have h7 : phiQ ((x2 - x1) * y1) ((max k1x k1y + max k2x k2y + 12) + k1y + 5) (f 7) W := hf 7 (by decide)
          have h8 : phiQ (thA y1 y2 * x1 + (x2 - x1) * y1) (2 * (max k1x k1y + max k2x k2y + 12) + k1x + k1y + 15) (f 8) W := hf 8 (by decide)
          have h9 : phiQ (thC x1 y1 x2 y2) (4 * (max k1x k1y + max k2x k2y + 12) + 40) (f 9) W := hf 9 (by decide)
          have h10 : phiB wc 45 [.bool false, .slice none 0 0, .slice none 0 0] (f 10) W := hf 10 (by decide)
          clear hf hne; simp only [putAll, lset, List.map_cons, List.map_nil, Act.put, List.setIfInBounds_toArray, List.set_cons_zero, List.set_cons_succ]
          generalize f 3 = v3 at *
          generalize f 7 = v7 at *
          generalize f 8 = v8 at *
          generalize f 9 = v9 at *
          generalize f 10 = v10 at *
          obtain ⟨g3, a3, l3, c3, aa3, ll3, cc3, rfl, i3⟩ := h3; obtain ⟨g7, a7, l7, c7, aa7, ll7, cc7, rfl, i7⟩ := h7; obtain ⟨g8, a8, l8, c8, aa8, ll8, cc8, rfl, i8⟩ := h8; obtain ⟨g9, a9, l9, c9, aa9, ll9, cc9, rfl, i9⟩ := h9; obtain ⟨b10, rfl, i10, j10, k10⟩ := h10
          have hH := hSw
          refine st 11 fun K hK => ?_; go_simp; refine hd hK ?_; clear hH hK K; intro hH; refine dn ?_; clear hH; go_wp2_with fail; go_meet; exact ⟨_, _, _, _, _, _, _, _, rfl, inferInstance, inferInstance, inferInstance⟩
      case rest =>
        obtain ⟨b9, gC, aC, lC, cC, aaC, llC, ccC, rfl, r1, r2, ⟨r3⟩⟩ := hcut; have r5 := Kp1.mk r3
        have r6 : Kp w wc := inferInstance
        have hfld : ∀ (x0 x1 x2 : Value) (W : World), (Instr.field 45 (.agg #[x0, x1, x2]) 0).run Tryz.prog W = .ok (.agg #[x0, x1]) W := fun _ _ _ _ => by kernel_rfl
        go_wp2_with fail; refine rgn [] [] fun hH => ?_; refine tk 0 hH ?_; refine tk 2 hH ?_; refine tk 5 hH ?_; refine st 1 fun K hK => ?_; go_simp; (with_reducible refine Calls.cN (numDenC) ?_); intros; refine hd hK ?_; clear hH hK K; intro hH; refine st 3 fun K hK => ?_; go_simp; (with_reducible refine Calls.cN (numDenC) ?_); intros; refine hd hK ?_; clear hH hK K; intro hH; refine st 4 fun K hK => ?_; go_simp; (with_reducible refine Calls.cN (numProductC (by omega)) ?_); intros; refine hd hK ?_; clear hH hK K; intro hH; refine st 6 fun K hK => ?_; go_simp; (with_reducible refine Calls.cN (numDenC) ?_); intros; refine hd hK ?_; clear hH hK K; intro hH; refine st 7 fun K hK => ?_; go_simp; (with_reducible refine Calls.cN (numProductC (by omega)) ?_); intros; refine hd hK ?_; clear hH hK K; intro hH; refine tk 8 hH ?_; refine dn ?_; clear hH; obtain ⟨hne, e1, e2, e3⟩ := thr_num (c := thC x1 y1 x2 y2) (M := sgn false ((thA y1 y2).den * (x2 - x1).den * (thC x1 y1 x2 y2).den)) h0.out rfl; have HNE := Lib.hid hne; have HE := Lib.hid (And.intro e1 (And.intro e2 e3)); clear hne e1 e2 e3
        go_wp2_with (first
    | (go_at_call 119; (with_reducible refine Calls.cSg (makeC) ?_); intros))
        refine rgn [] [15, 16] fun hH => ?_; refine tk 0 hH ?_; refine tk 1 hH ?_; refine tk 4 hH ?_; refine tk 5 hH ?_; refine tk 8 hH ?_; refine tk 9 hH ?_; refine st 2 fun K hK => ?_; go_simp
        (go_at_call 147; (with_reducible refine Calls.cQz (numTimesC (by omega)) ?_); intros)
        refine hd hK ?_; clear hH hK K; intro hH; refine tk 3 hH ?_; refine st 6 fun K hK => ?_; go_simp
        (go_at_call 147; (with_reducible refine Calls.cQz (numTimesC (by omega)) ?_); intros)
        refine hd hK ?_; clear hH hK K; intro hH; refine tk 7 hH ?_; refine st 10 fun K hK => ?_; go_simp
        (go_at_call 147; (with_reducible refine Calls.cQz (numTimesC (by omega)) ?_); intros)
        refine hd hK ?_; clear hH hK K; intro hH; refine tk 11 hH ?_; refine st 12 fun K hK => ?_; go_simp; (with_reducible refine Calls.cLZB (refMakeOk (by omega) HNE) ?_); intros; refine hd hK ?_; clear hH hK K; intro hH; refine tk 13 hH ?_; refine tk 14 hH ?_; refine st 15 fun K hK => ?_; go_simp; refine hdT hK ?_; clear hK K; refine tk0 16 ?_; refine dn ?_; clear hH; go_wp2_with fail
        refine ret_bt rfl Tryz.underlying163 rfl (by kernel_rfl) rfl rfl rfl ?_
        exact LZBRet.fin HE.out.1 (by omega) HE.out.2.1 (by omega) HE.out.2.2 (by omega)
end
section
instance CZ.zz {W : World} : CZ W (.agg #[.bool false, .slice none 0 0]) 0 0 := ⟨⟨_, _, _, _, rfl, rfl, Nn.nil W 0⟩⟩
instance CQ.zz {W : World} : CQ W (.agg #[.bool false, .slice none 0 0, .slice none 0 0]) 0 0 := CQ.mk' (h1 := CZ.zz) (h2 := CN.nil) rfl rfl (Nat.le_refl _) (Nat.le_refl _)
end
section
def phiPA (x y : Rat) (k : Nat) (u : Value) (W : World) : Prop := ∃ gx ax lx cx aax llx ccx gy ay ly cy aay lly ccy, u = .agg #[.bool gx, .slice ax lx cx, .slice aax llx ccx, .bool gy, .slice ay ly cy, .slice aay lly ccy] ∧ CA W (.agg #[.bool gx, .slice ax lx cx, .slice aax llx ccx]) x k ∧ CA W (.agg #[.bool gy, .slice ay ly cy, .slice aay lly ccy]) y k
instance {x y : Rat} {k : Nat} : Last (phiPA x y k) := ⟨fun _ _ _ hb ⟨gx, ax, lx, cx, aax, llx, ccx, gy, ay, ly, cy, aay, lly, ccy, e, _, _⟩ => have := Kp1.mk hb; ⟨gx, ax, lx, cx, aax, llx, ccx, gy, ay, ly, cy, aay, lly, ccy, e, inferInstance, inferInstance⟩⟩
def phiA (x : Rat) (k : Nat) (u : Value) (W : World) : Prop := ∃ g a l c aa ll cc, u = .agg #[.bool g, .slice a l c, .slice aa ll cc] ∧ CA W (.agg #[.bool g, .slice a l c, .slice aa ll cc]) x k
instance {x : Rat} {k : Nat} : Last (phiA x k) := ⟨fun _ _ _ hb ⟨g, a, l, c, aa, ll, cc, e, _⟩ => have := Kp1.mk hb; ⟨g, a, l, c, aa, ll, cc, e, inferInstance⟩⟩
end
section
def segG (p q : Rat × Rat) : FG :=
  { a := (lnK (thA p.2 q.2) (thA p.2 q.2) (q.1 - p.1) (thC p.1 p.2 q.1 q.2)).num
    b := (lnK (q.1 - p.1) (thA p.2 q.2) (q.1 - p.1) (thC p.1 p.2 q.1 q.2)).num
    c := (lnK (thC p.1 p.2 q.1 q.2) (thA p.2 q.2) (q.1 - p.1) (thC p.1 p.2 q.1 q.2)).num
    lo := parL ((lnK (thA p.2 q.2) (thA p.2 q.2) (q.1 - p.1) (thC p.1 p.2 q.1 q.2)).num : Rat) ((lnK (q.1 - p.1) (thA p.2 q.2) (q.1 - p.1) (thC p.1 p.2 q.1 q.2)).num : Rat) p.1 p.2
    hi := parL ((lnK (thA p.2 q.2) (thA p.2 q.2) (q.1 - p.1) (thC p.1 p.2 q.1 q.2)).num : Rat) ((lnK (q.1 - p.1) (thA p.2 q.2) (q.1 - p.1) (thC p.1 p.2 q.1 q.2)).num : Rat) q.1 q.2 }
theorem th_ne2 {p q : Rat × Rat} (h : p ≠ q) : ¬ (thA p.2 q.2 = 0 ∧ q.1 - p.1 = 0) := by
  rintro ⟨h1, h2⟩
  refine h (Prod.ext_iff.2 ⟨by grind, ?_⟩)
  unfold thA at h1
  grind
theorem segG_G {p q : Rat × Rat} (h : p ≠ q) : LnV (segG p q).a (segG p q).b (segG p q).c ∧ ∃ G : Rat, 0 < G ∧ ((segG p q).a : Rat) * G = -(q.2 - p.2) ∧ ((segG p q).b : Rat) * G = q.1 - p.1 ∧ ((segG p q).c : Rat) * G = thC p.1 p.2 q.1 q.2 := by
  have hn := th_ne2 h
  refine ⟨lnV_num _ hn, lnG (thA p.2 q.2) (q.1 - p.1) (thC p.1 p.2 q.1 q.2), lnG_pos _ hn, ?_⟩
  have hG := Rat.mul_inv_cancel _ (Rat.ne_of_gt (lnG_pos (thC p.1 p.2 q.1 q.2) hn))
  obtain ⟨A, B, C, e1, e2, e3, _⟩ := lnK_valid (c := thC p.1 p.2 q.1 q.2) hn
  have d1 : (segG p q).a = A := by show (lnK _ _ _ _).num = A; rw [← e1]; rfl
  have d2 : (segG p q).b = B := by show (lnK _ _ _ _).num = B; rw [← e2]; rfl
  have d3 : (segG p q).c = C := by show (lnK _ _ _ _).num = C; rw [← e3]; rfl
  rw [d1, d2, d3, e1, e2, e3]; unfold lnK
  generalize lnG (thA p.2 q.2) (q.1 - p.1) (thC p.1 p.2 q.1 q.2) = G at hG
  unfold thA
  refine ⟨?_, ?_, ?_⟩ <;> grind
theorem segG_len {p q : Rat × Rat} (h : p ≠ q) : 0 < (segG p q).hi - (segG p q).lo := by
  obtain ⟨hv, G, hG, e1, e2, e3⟩ := segG_G h
  have hn := sq_ne hv.1
  have hi := Rat.mul_inv_cancel _ hn
  have e : (segG p q).hi - (segG p q).lo = G := by
    show parL ((segG p q).a : Rat) ((segG p q).b : Rat) q.1 q.2 - parL ((segG p q).a : Rat) ((segG p q).b : Rat) p.1 p.2 = G
    unfold parL
    have h2 : ((segG p q).b : Rat) * (segG p q).b + -((segG p q).a : Rat) * -((segG p q).a : Rat) = ((segG p q).a : Rat) * (segG p q).a + ((segG p q).b : Rat) * (segG p q).b := by grind
    rw [h2, Rat.div_def, Rat.div_def]
    generalize ((segG p q).a : Rat) = a at *
    generalize ((segG p q).b : Rat) = b at *
    generalize (a * a + b * b)⁻¹ = M at hi
    have : (b * q.1 + -a * q.2) * M - (b * p.1 + -a * p.2) * M = G * ((a * a + b * b) * M) := by grind
    rw [this, hi]; grind
  rw [e]; exact hG
theorem segG_v {p q : Rat × Rat} (h : p ≠ q) : FGV (segG p q) := ⟨(segG_G h).1, by have := segG_len h; grind⟩
def edgeF (L : List (Rat × Rat)) (i : Nat) : FG := segG (pg L i) (pg L ((i + 1) % L.length))
def SimpleP (L : List (Rat × Rat)) : Prop := ∀ i k, i < L.length → k < i → ¬ OvP (edgeF L i) (edgeF L k) ∧ ∀ p, MtP (edgeF L i) (edgeF L k) p → (i = k + 1 ∧ p = pg L i) ∨ (i + 1 = L.length ∧ k = 0 ∧ p = pg L 0)
end
end Go.Proofs.YtdlnoeegboapkaaGreatDoor
