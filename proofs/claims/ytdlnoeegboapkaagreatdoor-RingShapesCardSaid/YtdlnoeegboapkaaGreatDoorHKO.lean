/-
  Texts of this claim, joined: Fo.
-/
import Derived.Test.YtdlnoeegboapkaaGreatDoorHKD
namespace Go.Proofs.YtdlnoeegboapkaaGreatDoor
open Go.RowKit
set_option linter.unusedVariables false
set_option maxHeartbeats 40000000
set_option maxRecDepth 100000
set_option synthInstance.maxHeartbeats 1000000
set_option synthInstance.maxSize 100000
section
theorem meetSH {w : World} {nx1 dx1 ny1 dy1 nz1 dz1 nu1 du1 nv1 dv1 nx2 dx2 ny2 dy2 nz2 dz2 nu2 du2 nv2 dv2 : Int} {px1 py1 pz1 pu1 pv1 px2 py2 pz2 pu2 pv2 : Option Addr} {f g : FG} {k : Nat} [jx1 : CF w (.agg #[.int .i64 nx1, .int .i64 dx1, .pointer px1]) (f.a : Rat) k] [jy1 : CF w (.agg #[.int .i64 ny1, .int .i64 dy1, .pointer py1]) (f.b : Rat) k] [jz1 : CF w (.agg #[.int .i64 nz1, .int .i64 dz1, .pointer pz1]) (f.c : Rat) k] [ju1 : CF w (.agg #[.int .i64 nu1, .int .i64 du1, .pointer pu1]) f.lo k] [jv1 : CF w (.agg #[.int .i64 nv1, .int .i64 dv1, .pointer pv1]) f.hi k] [jx2 : CF w (.agg #[.int .i64 nx2, .int .i64 dx2, .pointer px2]) (g.a : Rat) k] [jy2 : CF w (.agg #[.int .i64 ny2, .int .i64 dy2, .pointer py2]) (g.b : Rat) k] [jz2 : CF w (.agg #[.int .i64 nz2, .int .i64 dz2, .pointer pz2]) (g.c : Rat) k] [ju2 : CF w (.agg #[.int .i64 nu2, .int .i64 du2, .pointer pu2]) g.lo k] [jv2 : CF w (.agg #[.int .i64 nv2, .int .i64 dv2, .pointer pv2]) g.hi k] (b : k ≤ 100 ∧ 2 ≤ k) (hf : FGV f) (hg : FGV g) (hk : SmL f g) (hh : Hid (decide (f.hi = g.lo) = true)) :
    Calls Tryz.prog 106 #[.agg #[.int .i64 nx1, .int .i64 dx1, .pointer px1, .int .i64 ny1, .int .i64 dy1, .pointer py1, .int .i64 nz1, .int .i64 dz1, .pointer pz1, .int .i64 nu1, .int .i64 du1, .pointer pu1, .int .i64 nv1, .int .i64 dv1, .pointer pv1, .bool false, .bool false], .agg #[.int .i64 nx2, .int .i64 dx2, .pointer px2, .int .i64 ny2, .int .i64 dy2, .pointer py2, .int .i64 nz2, .int .i64 dz2, .pointer pz2, .int .i64 nu2, .int .i64 du2, .pointer pu2, .int .i64 nv2, .int .i64 dv2, .pointer pv2, .bool false, .bool false]] w (PFBRet w (atLx f.a f.b f.c f.hi) (atLy f.a f.b f.c f.hi) true (18 * k + 120)) := by
  go_enter Tryz.func106, Tryz.ntmps106
  go_wp2_with (first
    | (with_reducible refine step_ld (t := 182) (x := .tmp 3) rfl rfl rfl (load_box Tryz.underlying182 rfl (by kernel_rfl)) ?_)
        | (go_at_call 163; (with_reducible refine Calls.cIvB (ontoS (f := f) (g := g) (by omega) hk) ?_); intro w1 _ nu du pu nv dv pv iu iv)
    | (go_at_call 167; (with_reducible refine Calls.cE (rEqualV (by omega) hh) ?_); intros)
    | (go_at_call 168; (with_reducible refine Calls.cPF (lnAtC (by omega)) ?_); intros))
  refine ret_bt rfl Tryz.underlying152 rfl (by kernel_rfl) rfl rfl rfl ?_
  exact PFBRet.fin rfl (by omega) rfl (by omega)
theorem meetSL {w : World} {nx1 dx1 ny1 dy1 nz1 dz1 nu1 du1 nv1 dv1 nx2 dx2 ny2 dy2 nz2 dz2 nu2 du2 nv2 dv2 : Int} {px1 py1 pz1 pu1 pv1 px2 py2 pz2 pu2 pv2 : Option Addr} {f g : FG} {k : Nat} [jx1 : CF w (.agg #[.int .i64 nx1, .int .i64 dx1, .pointer px1]) (f.a : Rat) k] [jy1 : CF w (.agg #[.int .i64 ny1, .int .i64 dy1, .pointer py1]) (f.b : Rat) k] [jz1 : CF w (.agg #[.int .i64 nz1, .int .i64 dz1, .pointer pz1]) (f.c : Rat) k] [ju1 : CF w (.agg #[.int .i64 nu1, .int .i64 du1, .pointer pu1]) f.lo k] [jv1 : CF w (.agg #[.int .i64 nv1, .int .i64 dv1, .pointer pv1]) f.hi k] [jx2 : CF w (.agg #[.int .i64 nx2, .int .i64 dx2, .pointer px2]) (g.a : Rat) k] [jy2 : CF w (.agg #[.int .i64 ny2, .int .i64 dy2, .pointer py2]) (g.b : Rat) k] [jz2 : CF w (.agg #[.int .i64 nz2, .int .i64 dz2, .pointer pz2]) (g.c : Rat) k] [ju2 : CF w (.agg #[.int .i64 nu2, .int .i64 du2, .pointer pu2]) g.lo k] [jv2 : CF w (.agg #[.int .i64 nv2, .int .i64 dv2, .pointer pv2]) g.hi k] (b : k ≤ 100 ∧ 2 ≤ k) (hf : FGV f) (hg : FGV g) (hk : SmL f g) (hh : Hid (decide (f.hi = g.lo) = false)) (hl : Hid (decide (f.lo = g.hi) = true)) :
    Calls Tryz.prog 106 #[.agg #[.int .i64 nx1, .int .i64 dx1, .pointer px1, .int .i64 ny1, .int .i64 dy1, .pointer py1, .int .i64 nz1, .int .i64 dz1, .pointer pz1, .int .i64 nu1, .int .i64 du1, .pointer pu1, .int .i64 nv1, .int .i64 dv1, .pointer pv1, .bool false, .bool false], .agg #[.int .i64 nx2, .int .i64 dx2, .pointer px2, .int .i64 ny2, .int .i64 dy2, .pointer py2, .int .i64 nz2, .int .i64 dz2, .pointer pz2, .int .i64 nu2, .int .i64 du2, .pointer pu2, .int .i64 nv2, .int .i64 dv2, .pointer pv2, .bool false, .bool false]] w (PFBRet w (atLx f.a f.b f.c f.lo) (atLy f.a f.b f.c f.lo) true (18 * k + 120)) := by
  go_enter Tryz.func106, Tryz.ntmps106
  go_wp2_with (first
    | (with_reducible refine step_ld (t := 182) (x := .tmp 3) rfl rfl rfl (load_box Tryz.underlying182 rfl (by kernel_rfl)) ?_)
        | (go_at_call 163; (with_reducible refine Calls.cIvB (ontoS (f := f) (g := g) (by omega) hk) ?_); intro w1 _ nu du pu nv dv pv iu iv)
    | (go_at_call 167; (with_reducible refine Calls.cE (rEqualV (by omega) hh) ?_); intros)
    | (go_at_call 167; (with_reducible refine Calls.cE (rEqualV (by omega) hl) ?_); intros)
    | (go_at_call 168; (with_reducible refine Calls.cPF (lnAtC (by omega)) ?_); intros))
  refine ret_bt rfl Tryz.underlying152 rfl (by kernel_rfl) rfl rfl rfl ?_
  exact PFBRet.fin rfl (by omega) rfl (by omega)
theorem meetSN {w : World} {nx1 dx1 ny1 dy1 nz1 dz1 nu1 du1 nv1 dv1 nx2 dx2 ny2 dy2 nz2 dz2 nu2 du2 nv2 dv2 : Int} {px1 py1 pz1 pu1 pv1 px2 py2 pz2 pu2 pv2 : Option Addr} {f g : FG} {k : Nat} [jx1 : CF w (.agg #[.int .i64 nx1, .int .i64 dx1, .pointer px1]) (f.a : Rat) k] [jy1 : CF w (.agg #[.int .i64 ny1, .int .i64 dy1, .pointer py1]) (f.b : Rat) k] [jz1 : CF w (.agg #[.int .i64 nz1, .int .i64 dz1, .pointer pz1]) (f.c : Rat) k] [ju1 : CF w (.agg #[.int .i64 nu1, .int .i64 du1, .pointer pu1]) f.lo k] [jv1 : CF w (.agg #[.int .i64 nv1, .int .i64 dv1, .pointer pv1]) f.hi k] [jx2 : CF w (.agg #[.int .i64 nx2, .int .i64 dx2, .pointer px2]) (g.a : Rat) k] [jy2 : CF w (.agg #[.int .i64 ny2, .int .i64 dy2, .pointer py2]) (g.b : Rat) k] [jz2 : CF w (.agg #[.int .i64 nz2, .int .i64 dz2, .pointer pz2]) (g.c : Rat) k] [ju2 : CF w (.agg #[.int .i64 nu2, .int .i64 du2, .pointer pu2]) g.lo k] [jv2 : CF w (.agg #[.int .i64 nv2, .int .i64 dv2, .pointer pv2]) g.hi k] (b : k ≤ 100 ∧ 2 ≤ k) (hf : FGV f) (hg : FGV g) (hk : SmL f g) (hh : Hid (decide (f.hi = g.lo) = false)) (hl : Hid (decide (f.lo = g.hi) = false)) :
    Calls Tryz.prog 106 #[.agg #[.int .i64 nx1, .int .i64 dx1, .pointer px1, .int .i64 ny1, .int .i64 dy1, .pointer py1, .int .i64 nz1, .int .i64 dz1, .pointer pz1, .int .i64 nu1, .int .i64 du1, .pointer pu1, .int .i64 nv1, .int .i64 dv1, .pointer pv1, .bool false, .bool false], .agg #[.int .i64 nx2, .int .i64 dx2, .pointer px2, .int .i64 ny2, .int .i64 dy2, .pointer py2, .int .i64 nz2, .int .i64 dz2, .pointer pz2, .int .i64 nu2, .int .i64 du2, .pointer pu2, .int .i64 nv2, .int .i64 dv2, .pointer pv2, .bool false, .bool false]] w (PFBRet w 0 0 false (18 * k + 120)) := by
  go_enter Tryz.func106, Tryz.ntmps106
  go_wp2_with (first
    | (with_reducible refine step_ld (t := 182) (x := .tmp 3) rfl rfl rfl (load_box Tryz.underlying182 rfl (by kernel_rfl)) ?_)
        | (go_at_call 163; (with_reducible refine Calls.cIvB (ontoS (f := f) (g := g) (by omega) hk) ?_); intro w1 _ nu du pu nv dv pv iu iv)
    | (go_at_call 167; (with_reducible refine Calls.cE (rEqualV (by omega) hh) ?_); intros)
    | (go_at_call 167; (with_reducible refine Calls.cE (rEqualV (by omega) hl) ?_); intros))
  refine ret_bt rfl Tryz.underlying152 rfl (by kernel_rfl) rfl rfl rfl ?_
  exact PFBRet.fin rfl (by omega) rfl (by omega)
theorem meetOH {w : World} {nx1 dx1 ny1 dy1 nz1 dz1 nu1 du1 nv1 dv1 nx2 dx2 ny2 dy2 nz2 dz2 nu2 du2 nv2 dv2 : Int} {px1 py1 pz1 pu1 pv1 px2 py2 pz2 pu2 pv2 : Option Addr} {f g : FG} {k : Nat} [jx1 : CF w (.agg #[.int .i64 nx1, .int .i64 dx1, .pointer px1]) (f.a : Rat) k] [jy1 : CF w (.agg #[.int .i64 ny1, .int .i64 dy1, .pointer py1]) (f.b : Rat) k] [jz1 : CF w (.agg #[.int .i64 nz1, .int .i64 dz1, .pointer pz1]) (f.c : Rat) k] [ju1 : CF w (.agg #[.int .i64 nu1, .int .i64 du1, .pointer pu1]) f.lo k] [jv1 : CF w (.agg #[.int .i64 nv1, .int .i64 dv1, .pointer pv1]) f.hi k] [jx2 : CF w (.agg #[.int .i64 nx2, .int .i64 dx2, .pointer px2]) (g.a : Rat) k] [jy2 : CF w (.agg #[.int .i64 ny2, .int .i64 dy2, .pointer py2]) (g.b : Rat) k] [jz2 : CF w (.agg #[.int .i64 nz2, .int .i64 dz2, .pointer pz2]) (g.c : Rat) k] [ju2 : CF w (.agg #[.int .i64 nu2, .int .i64 du2, .pointer pu2]) g.lo k] [jv2 : CF w (.agg #[.int .i64 nv2, .int .i64 dv2, .pointer pv2]) g.hi k] (b : k ≤ 100 ∧ 2 ≤ k) (hf : FGV f) (hg : FGV g) (hk : OpL f g) (hh : Hid (decide (f.hi = -g.hi) = true)) :
    Calls Tryz.prog 106 #[.agg #[.int .i64 nx1, .int .i64 dx1, .pointer px1, .int .i64 ny1, .int .i64 dy1, .pointer py1, .int .i64 nz1, .int .i64 dz1, .pointer pz1, .int .i64 nu1, .int .i64 du1, .pointer pu1, .int .i64 nv1, .int .i64 dv1, .pointer pv1, .bool false, .bool false], .agg #[.int .i64 nx2, .int .i64 dx2, .pointer px2, .int .i64 ny2, .int .i64 dy2, .pointer py2, .int .i64 nz2, .int .i64 dz2, .pointer pz2, .int .i64 nu2, .int .i64 du2, .pointer pu2, .int .i64 nv2, .int .i64 dv2, .pointer pv2, .bool false, .bool false]] w (PFBRet w (atLx f.a f.b f.c f.hi) (atLy f.a f.b f.c f.hi) true (18 * k + 120)) := by
  go_enter Tryz.func106, Tryz.ntmps106
  go_wp2_with (first
    | (with_reducible refine step_ld (t := 182) (x := .tmp 3) rfl rfl rfl (load_box Tryz.underlying182 rfl (by kernel_rfl)) ?_)
        | (go_at_call 163; (with_reducible refine Calls.cIvB (ontoO (f := f) (g := g) (by omega) hk hf) ?_); intro w1 _ nu du pu nv dv pv iu iv)
    | (go_at_call 167; (with_reducible refine Calls.cE (rEqualV (by omega) hh) ?_); intros)
    | (go_at_call 168; (with_reducible refine Calls.cPF (lnAtC (by omega)) ?_); intros))
  refine ret_bt rfl Tryz.underlying152 rfl (by kernel_rfl) rfl rfl rfl ?_
  exact PFBRet.fin rfl (by omega) rfl (by omega)
theorem meetOL {w : World} {nx1 dx1 ny1 dy1 nz1 dz1 nu1 du1 nv1 dv1 nx2 dx2 ny2 dy2 nz2 dz2 nu2 du2 nv2 dv2 : Int} {px1 py1 pz1 pu1 pv1 px2 py2 pz2 pu2 pv2 : Option Addr} {f g : FG} {k : Nat} [jx1 : CF w (.agg #[.int .i64 nx1, .int .i64 dx1, .pointer px1]) (f.a : Rat) k] [jy1 : CF w (.agg #[.int .i64 ny1, .int .i64 dy1, .pointer py1]) (f.b : Rat) k] [jz1 : CF w (.agg #[.int .i64 nz1, .int .i64 dz1, .pointer pz1]) (f.c : Rat) k] [ju1 : CF w (.agg #[.int .i64 nu1, .int .i64 du1, .pointer pu1]) f.lo k] [jv1 : CF w (.agg #[.int .i64 nv1, .int .i64 dv1, .pointer pv1]) f.hi k] [jx2 : CF w (.agg #[.int .i64 nx2, .int .i64 dx2, .pointer px2]) (g.a : Rat) k] [jy2 : CF w (.agg #[.int .i64 ny2, .int .i64 dy2, .pointer py2]) (g.b : Rat) k] [jz2 : CF w (.agg #[.int .i64 nz2, .int .i64 dz2, .pointer pz2]) (g.c : Rat) k] [ju2 : CF w (.agg #[.int .i64 nu2, .int .i64 du2, .pointer pu2]) g.lo k] [jv2 : CF w (.agg #[.int .i64 nv2, .int .i64 dv2, .pointer pv2]) g.hi k] (b : k ≤ 100 ∧ 2 ≤ k) (hf : FGV f) (hg : FGV g) (hk : OpL f g) (hh : Hid (decide (f.hi = -g.hi) = false)) (hl : Hid (decide (f.lo = -g.lo) = true)) :
    Calls Tryz.prog 106 #[.agg #[.int .i64 nx1, .int .i64 dx1, .pointer px1, .int .i64 ny1, .int .i64 dy1, .pointer py1, .int .i64 nz1, .int .i64 dz1, .pointer pz1, .int .i64 nu1, .int .i64 du1, .pointer pu1, .int .i64 nv1, .int .i64 dv1, .pointer pv1, .bool false, .bool false], .agg #[.int .i64 nx2, .int .i64 dx2, .pointer px2, .int .i64 ny2, .int .i64 dy2, .pointer py2, .int .i64 nz2, .int .i64 dz2, .pointer pz2, .int .i64 nu2, .int .i64 du2, .pointer pu2, .int .i64 nv2, .int .i64 dv2, .pointer pv2, .bool false, .bool false]] w (PFBRet w (atLx f.a f.b f.c f.lo) (atLy f.a f.b f.c f.lo) true (18 * k + 120)) := by
  go_enter Tryz.func106, Tryz.ntmps106
  go_wp2_with (first
    | (with_reducible refine step_ld (t := 182) (x := .tmp 3) rfl rfl rfl (load_box Tryz.underlying182 rfl (by kernel_rfl)) ?_)
        | (go_at_call 163; (with_reducible refine Calls.cIvB (ontoO (f := f) (g := g) (by omega) hk hf) ?_); intro w1 _ nu du pu nv dv pv iu iv)
    | (go_at_call 167; (with_reducible refine Calls.cE (rEqualV (by omega) hh) ?_); intros)
    | (go_at_call 167; (with_reducible refine Calls.cE (rEqualV (by omega) hl) ?_); intros)
    | (go_at_call 168; (with_reducible refine Calls.cPF (lnAtC (by omega)) ?_); intros))
  refine ret_bt rfl Tryz.underlying152 rfl (by kernel_rfl) rfl rfl rfl ?_
  exact PFBRet.fin rfl (by omega) rfl (by omega)
theorem meetON {w : World} {nx1 dx1 ny1 dy1 nz1 dz1 nu1 du1 nv1 dv1 nx2 dx2 ny2 dy2 nz2 dz2 nu2 du2 nv2 dv2 : Int} {px1 py1 pz1 pu1 pv1 px2 py2 pz2 pu2 pv2 : Option Addr} {f g : FG} {k : Nat} [jx1 : CF w (.agg #[.int .i64 nx1, .int .i64 dx1, .pointer px1]) (f.a : Rat) k] [jy1 : CF w (.agg #[.int .i64 ny1, .int .i64 dy1, .pointer py1]) (f.b : Rat) k] [jz1 : CF w (.agg #[.int .i64 nz1, .int .i64 dz1, .pointer pz1]) (f.c : Rat) k] [ju1 : CF w (.agg #[.int .i64 nu1, .int .i64 du1, .pointer pu1]) f.lo k] [jv1 : CF w (.agg #[.int .i64 nv1, .int .i64 dv1, .pointer pv1]) f.hi k] [jx2 : CF w (.agg #[.int .i64 nx2, .int .i64 dx2, .pointer px2]) (g.a : Rat) k] [jy2 : CF w (.agg #[.int .i64 ny2, .int .i64 dy2, .pointer py2]) (g.b : Rat) k] [jz2 : CF w (.agg #[.int .i64 nz2, .int .i64 dz2, .pointer pz2]) (g.c : Rat) k] [ju2 : CF w (.agg #[.int .i64 nu2, .int .i64 du2, .pointer pu2]) g.lo k] [jv2 : CF w (.agg #[.int .i64 nv2, .int .i64 dv2, .pointer pv2]) g.hi k] (b : k ≤ 100 ∧ 2 ≤ k) (hf : FGV f) (hg : FGV g) (hk : OpL f g) (hh : Hid (decide (f.hi = -g.hi) = false)) (hl : Hid (decide (f.lo = -g.lo) = false)) :
    Calls Tryz.prog 106 #[.agg #[.int .i64 nx1, .int .i64 dx1, .pointer px1, .int .i64 ny1, .int .i64 dy1, .pointer py1, .int .i64 nz1, .int .i64 dz1, .pointer pz1, .int .i64 nu1, .int .i64 du1, .pointer pu1, .int .i64 nv1, .int .i64 dv1, .pointer pv1, .bool false, .bool false], .agg #[.int .i64 nx2, .int .i64 dx2, .pointer px2, .int .i64 ny2, .int .i64 dy2, .pointer py2, .int .i64 nz2, .int .i64 dz2, .pointer pz2, .int .i64 nu2, .int .i64 du2, .pointer pu2, .int .i64 nv2, .int .i64 dv2, .pointer pv2, .bool false, .bool false]] w (PFBRet w 0 0 false (18 * k + 120)) := by
  go_enter Tryz.func106, Tryz.ntmps106
  go_wp2_with (first
    | (with_reducible refine step_ld (t := 182) (x := .tmp 3) rfl rfl rfl (load_box Tryz.underlying182 rfl (by kernel_rfl)) ?_)
        | (go_at_call 163; (with_reducible refine Calls.cIvB (ontoO (f := f) (g := g) (by omega) hk hf) ?_); intro w1 _ nu du pu nv dv pv iu iv)
    | (go_at_call 167; (with_reducible refine Calls.cE (rEqualV (by omega) hh) ?_); intros)
    | (go_at_call 167; (with_reducible refine Calls.cE (rEqualV (by omega) hl) ?_); intros))
  refine ret_bt rfl Tryz.underlying152 rfl (by kernel_rfl) rfl rfl rfl ?_
  exact PFBRet.fin rfl (by omega) rfl (by omega)
theorem meetNZ {w : World} {nx1 dx1 ny1 dy1 nz1 dz1 nu1 du1 nv1 dv1 nx2 dx2 ny2 dy2 nz2 dz2 nu2 du2 nv2 dv2 : Int} {px1 py1 pz1 pu1 pv1 px2 py2 pz2 pu2 pv2 : Option Addr} {f g : FG} {k : Nat} [jx1 : CF w (.agg #[.int .i64 nx1, .int .i64 dx1, .pointer px1]) (f.a : Rat) k] [jy1 : CF w (.agg #[.int .i64 ny1, .int .i64 dy1, .pointer py1]) (f.b : Rat) k] [jz1 : CF w (.agg #[.int .i64 nz1, .int .i64 dz1, .pointer pz1]) (f.c : Rat) k] [ju1 : CF w (.agg #[.int .i64 nu1, .int .i64 du1, .pointer pu1]) f.lo k] [jv1 : CF w (.agg #[.int .i64 nv1, .int .i64 dv1, .pointer pv1]) f.hi k] [jx2 : CF w (.agg #[.int .i64 nx2, .int .i64 dx2, .pointer px2]) (g.a : Rat) k] [jy2 : CF w (.agg #[.int .i64 ny2, .int .i64 dy2, .pointer py2]) (g.b : Rat) k] [jz2 : CF w (.agg #[.int .i64 nz2, .int .i64 dz2, .pointer pz2]) (g.c : Rat) k] [ju2 : CF w (.agg #[.int .i64 nu2, .int .i64 du2, .pointer pu2]) g.lo k] [jv2 : CF w (.agg #[.int .i64 nv2, .int .i64 dv2, .pointer pv2]) g.hi k] (b : k ≤ 100 ∧ 2 ≤ k) (hf : FGV f) (hg : FGV g) (hk : ¬ SmL f g) (hk2 : ¬ OpL f g) (HZ : Hid (decide ((f.a : Rat) * g.b - f.b * g.a = 0) = true)) :
    Calls Tryz.prog 106 #[.agg #[.int .i64 nx1, .int .i64 dx1, .pointer px1, .int .i64 ny1, .int .i64 dy1, .pointer py1, .int .i64 nz1, .int .i64 dz1, .pointer pz1, .int .i64 nu1, .int .i64 du1, .pointer pu1, .int .i64 nv1, .int .i64 dv1, .pointer pv1, .bool false, .bool false], .agg #[.int .i64 nx2, .int .i64 dx2, .pointer px2, .int .i64 ny2, .int .i64 dy2, .pointer py2, .int .i64 nz2, .int .i64 dz2, .pointer pz2, .int .i64 nu2, .int .i64 du2, .pointer pu2, .int .i64 nv2, .int .i64 dv2, .pointer pv2, .bool false, .bool false]] w (PFBRet w 0 0 false (18 * k + 120)) := by
  go_enter Tryz.func106, Tryz.ntmps106
  go_upto_region 4 with (first
    | (with_reducible refine step_ld (t := 182) (x := .tmp 3) rfl rfl rfl (load_box Tryz.underlying182 rfl (by kernel_rfl)) ?_)
        | (go_at_call 163; (with_reducible refine Calls.cIvB (ontoN (f := f) (g := g) (by omega) hk hk2) ?_); intro w1 _ nu du pu nv dv pv iu iv)
    | (go_at_call 164; (with_reducible refine Calls.cPFB (gMeetNo (by omega) HZ) ?_); intro w2 _ n7 d7 p7 n8 d8 p8 i7 i8))
  refine rgn [] [] fun hH => ?_; refine tk 0 hH ?_; refine tk 1 hH ?_; refine tk 2 hH ?_; refine tkU 3 hH ?_; refine tkU 4 hH ?_; refine tkU 5 hH ?_; refine tkU 6 hH ?_; refine tkU 7 hH ?_; refine tkU 8 hH ?_; refine tkU 9 hH ?_; refine tkU 10 hH ?_; refine tk 11 hH ?_; refine tk 12 hH ?_; refine tkU 13 hH ?_; refine tkU 14 hH ?_; refine tkU 15 hH ?_; refine tkU 16 hH ?_; refine tkU 17 hH ?_; refine tkU 18 hH ?_; refine tkU 19 hH ?_; refine tkU 20 hH ?_; refine tk 21 hH ?_; refine dn ?_; clear hH; go_wp2_with fail
  refine ret_bt rfl Tryz.underlying152 rfl (by kernel_rfl) rfl rfl rfl ?_
  exact PFBRet.fin rfl (by omega) rfl (by omega)
theorem meetNA {w : World} {nx1 dx1 ny1 dy1 nz1 dz1 nu1 du1 nv1 dv1 nx2 dx2 ny2 dy2 nz2 dz2 nu2 du2 nv2 dv2 : Int} {px1 py1 pz1 pu1 pv1 px2 py2 pz2 pu2 pv2 : Option Addr} {f g : FG} {k : Nat} [jx1 : CF w (.agg #[.int .i64 nx1, .int .i64 dx1, .pointer px1]) (f.a : Rat) k] [jy1 : CF w (.agg #[.int .i64 ny1, .int .i64 dy1, .pointer py1]) (f.b : Rat) k] [jz1 : CF w (.agg #[.int .i64 nz1, .int .i64 dz1, .pointer pz1]) (f.c : Rat) k] [ju1 : CF w (.agg #[.int .i64 nu1, .int .i64 du1, .pointer pu1]) f.lo k] [jv1 : CF w (.agg #[.int .i64 nv1, .int .i64 dv1, .pointer pv1]) f.hi k] [jx2 : CF w (.agg #[.int .i64 nx2, .int .i64 dx2, .pointer px2]) (g.a : Rat) k] [jy2 : CF w (.agg #[.int .i64 ny2, .int .i64 dy2, .pointer py2]) (g.b : Rat) k] [jz2 : CF w (.agg #[.int .i64 nz2, .int .i64 dz2, .pointer pz2]) (g.c : Rat) k] [ju2 : CF w (.agg #[.int .i64 nu2, .int .i64 du2, .pointer pu2]) g.lo k] [jv2 : CF w (.agg #[.int .i64 nv2, .int .i64 dv2, .pointer pv2]) g.hi k] (b : k ≤ 100 ∧ 2 ≤ k) (hf : FGV f) (hg : FGV g) (hk : ¬ SmL f g) (hk2 : ¬ OpL f g) (HZ : Hid (decide ((f.a : Rat) * g.b - f.b * g.a = 0) = false)) (h1 : decide (inV f.lo f.hi (parL f.a f.b (mtX f g) (mtY f g))) = false) :
    Calls Tryz.prog 106 #[.agg #[.int .i64 nx1, .int .i64 dx1, .pointer px1, .int .i64 ny1, .int .i64 dy1, .pointer py1, .int .i64 nz1, .int .i64 dz1, .pointer pz1, .int .i64 nu1, .int .i64 du1, .pointer pu1, .int .i64 nv1, .int .i64 dv1, .pointer pv1, .bool false, .bool false], .agg #[.int .i64 nx2, .int .i64 dx2, .pointer px2, .int .i64 ny2, .int .i64 dy2, .pointer py2, .int .i64 nz2, .int .i64 dz2, .pointer pz2, .int .i64 nu2, .int .i64 du2, .pointer pu2, .int .i64 nv2, .int .i64 dv2, .pointer pv2, .bool false, .bool false]] w (PFBRet w 0 0 false (18 * k + 120)) := by
  obtain ⟨X, hX⟩ : ∃ X, mtX f g = X := ⟨_, rfl⟩; obtain ⟨Y, hY⟩ : ∃ Y, mtY f g = Y := ⟨_, rfl⟩
  have HX : Hid (((f.b : Rat) * g.c - f.c * g.b) / ((f.a : Rat) * g.b - f.b * g.a) = X) := Lib.hid (by rw [← hX]; rfl)
  have HY : Hid (((f.c : Rat) * g.a - f.a * g.c) / ((f.a : Rat) * g.b - f.b * g.a) = Y) := Lib.hid (by rw [← hY]; rfl)
  rw [hX, hY] at h1; clear hX hY; obtain ⟨P1, hP1⟩ : ∃ P, parL f.a f.b X Y = P := ⟨_, rfl⟩
  have HP1 : Hid (((f.b : Rat) * X + -(f.a : Rat) * Y) / ((f.b : Rat) * f.b + -(f.a : Rat) * -(f.a : Rat)) = P1) := Lib.hid (by rw [← hP1]; rfl)
  rw [hP1] at h1; have H1 := Lib.hid h1; clear hP1 h1; go_enter Tryz.func106, Tryz.ntmps106
  go_upto_region 4 with (first
    | (with_reducible refine step_ld (t := 182) (x := .tmp 3) rfl rfl rfl (load_box Tryz.underlying182 rfl (by kernel_rfl)) ?_)
        | (go_at_call 163; (with_reducible refine Calls.cIvB (ontoN (f := f) (g := g) (by omega) hk hk2) ?_); intro w1 _ nu du pu nv dv pv iu iv)
    | (go_at_call 164; (with_reducible refine Calls.cPFB (gMeetOk (by omega) HZ) ?_); intro w2 _ n7 d7 p7 n8 d8 p8 i7 i8; rw [HX.out] at i7; rw [HY.out] at i8))
  refine rgn [] [] fun hH => ?_; refine tk 0 hH ?_; refine tk 1 hH ?_; refine tk 2 hH ?_; refine tk 3 hH ?_; refine tk 4 hH ?_; refine tk 5 hH ?_; refine tk 6 hH ?_; refine tk 7 hH ?_; refine st 8 fun K hK => ?_; go_simp
  (with_reducible refine Calls.cF (lnParamC (by omega)) ?_); intro w11 _ n11 d11 p11 i11; rw [HP1.out] at i11
  refine hd hK ?_; clear hH hK K; intro hH; refine st 9 fun K hK => ?_; go_simp; (with_reducible refine Calls.cE (ivHasV (k := k) (by omega) H1) ?_); intros; refine hd hK ?_; clear hH hK K; intro hH; refine tk 10 hH ?_; refine tk 11 hH ?_; refine tk 12 hH ?_; refine tkU 13 hH ?_; refine tkU 14 hH ?_; refine tkU 15 hH ?_; refine tkU 16 hH ?_; refine tkU 17 hH ?_; refine tkU 18 hH ?_; refine tkU 19 hH ?_; refine tkU 20 hH ?_; refine tk 21 hH ?_; refine dn ?_; clear hH; go_wp2_with fail
  refine ret_bt rfl Tryz.underlying152 rfl (by kernel_rfl) rfl rfl rfl ?_
  exact PFBRet.fin rfl (by omega) rfl (by omega)
theorem meetNB {w : World} {nx1 dx1 ny1 dy1 nz1 dz1 nu1 du1 nv1 dv1 nx2 dx2 ny2 dy2 nz2 dz2 nu2 du2 nv2 dv2 : Int} {px1 py1 pz1 pu1 pv1 px2 py2 pz2 pu2 pv2 : Option Addr} {f g : FG} {k : Nat} [jx1 : CF w (.agg #[.int .i64 nx1, .int .i64 dx1, .pointer px1]) (f.a : Rat) k] [jy1 : CF w (.agg #[.int .i64 ny1, .int .i64 dy1, .pointer py1]) (f.b : Rat) k] [jz1 : CF w (.agg #[.int .i64 nz1, .int .i64 dz1, .pointer pz1]) (f.c : Rat) k] [ju1 : CF w (.agg #[.int .i64 nu1, .int .i64 du1, .pointer pu1]) f.lo k] [jv1 : CF w (.agg #[.int .i64 nv1, .int .i64 dv1, .pointer pv1]) f.hi k] [jx2 : CF w (.agg #[.int .i64 nx2, .int .i64 dx2, .pointer px2]) (g.a : Rat) k] [jy2 : CF w (.agg #[.int .i64 ny2, .int .i64 dy2, .pointer py2]) (g.b : Rat) k] [jz2 : CF w (.agg #[.int .i64 nz2, .int .i64 dz2, .pointer pz2]) (g.c : Rat) k] [ju2 : CF w (.agg #[.int .i64 nu2, .int .i64 du2, .pointer pu2]) g.lo k] [jv2 : CF w (.agg #[.int .i64 nv2, .int .i64 dv2, .pointer pv2]) g.hi k] (b : k ≤ 100 ∧ 2 ≤ k) (hf : FGV f) (hg : FGV g) (hk : ¬ SmL f g) (hk2 : ¬ OpL f g) (HZ : Hid (decide ((f.a : Rat) * g.b - f.b * g.a = 0) = false)) (h1 : decide (inV f.lo f.hi (parL f.a f.b (mtX f g) (mtY f g))) = true) (h2 : decide (inV g.lo g.hi (parL g.a g.b (mtX f g) (mtY f g))) = false) :
    Calls Tryz.prog 106 #[.agg #[.int .i64 nx1, .int .i64 dx1, .pointer px1, .int .i64 ny1, .int .i64 dy1, .pointer py1, .int .i64 nz1, .int .i64 dz1, .pointer pz1, .int .i64 nu1, .int .i64 du1, .pointer pu1, .int .i64 nv1, .int .i64 dv1, .pointer pv1, .bool false, .bool false], .agg #[.int .i64 nx2, .int .i64 dx2, .pointer px2, .int .i64 ny2, .int .i64 dy2, .pointer py2, .int .i64 nz2, .int .i64 dz2, .pointer pz2, .int .i64 nu2, .int .i64 du2, .pointer pu2, .int .i64 nv2, .int .i64 dv2, .pointer pv2, .bool false, .bool false]] w (PFBRet w 0 0 false (18 * k + 120)) := by
  obtain ⟨X, hX⟩ : ∃ X, mtX f g = X := ⟨_, rfl⟩; obtain ⟨Y, hY⟩ : ∃ Y, mtY f g = Y := ⟨_, rfl⟩
  have HX : Hid (((f.b : Rat) * g.c - f.c * g.b) / ((f.a : Rat) * g.b - f.b * g.a) = X) := Lib.hid (by rw [← hX]; rfl)
  have HY : Hid (((f.c : Rat) * g.a - f.a * g.c) / ((f.a : Rat) * g.b - f.b * g.a) = Y) := Lib.hid (by rw [← hY]; rfl)
  rw [hX, hY] at h1 h2; clear hX hY; obtain ⟨P1, hP1⟩ : ∃ P, parL f.a f.b X Y = P := ⟨_, rfl⟩
  have HP1 : Hid (((f.b : Rat) * X + -(f.a : Rat) * Y) / ((f.b : Rat) * f.b + -(f.a : Rat) * -(f.a : Rat)) = P1) := Lib.hid (by rw [← hP1]; rfl)
  rw [hP1] at h1; have H1 := Lib.hid h1; clear hP1 h1; obtain ⟨P2, hP2⟩ : ∃ P, parL g.a g.b X Y = P := ⟨_, rfl⟩
  have HP2 : Hid (((g.b : Rat) * X + -(g.a : Rat) * Y) / ((g.b : Rat) * g.b + -(g.a : Rat) * -(g.a : Rat)) = P2) := Lib.hid (by rw [← hP2]; rfl)
  rw [hP2] at h2; have H2 := Lib.hid h2; clear hP2 h2; go_enter Tryz.func106, Tryz.ntmps106
  go_upto_region 4 with (first
    | (with_reducible refine step_ld (t := 182) (x := .tmp 3) rfl rfl rfl (load_box Tryz.underlying182 rfl (by kernel_rfl)) ?_)
        | (go_at_call 163; (with_reducible refine Calls.cIvB (ontoN (f := f) (g := g) (by omega) hk hk2) ?_); intro w1 _ nu du pu nv dv pv iu iv)
    | (go_at_call 164; (with_reducible refine Calls.cPFB (gMeetOk (by omega) HZ) ?_); intro w2 _ n7 d7 p7 n8 d8 p8 i7 i8; rw [HX.out] at i7; rw [HY.out] at i8))
  refine rgn [] [] fun hH => ?_; refine tk 0 hH ?_; refine tk 1 hH ?_; refine tk 2 hH ?_; refine tk 3 hH ?_; refine tk 4 hH ?_; refine tk 5 hH ?_; refine tk 6 hH ?_; refine tk 7 hH ?_; refine st 8 fun K hK => ?_; go_simp
  (with_reducible refine Calls.cF (lnParamC (by omega)) ?_); intro w11 _ n11 d11 p11 i11; rw [HP1.out] at i11
  refine hd hK ?_; clear hH hK K; intro hH; refine st 9 fun K hK => ?_; go_simp; (with_reducible refine Calls.cE (ivHasV (k := k) (by omega) H1) ?_); intros; refine hd hK ?_; clear hH hK K; intro hH; refine tk 10 hH ?_; refine tk 11 hH ?_; refine tk 12 hH ?_; refine tk 13 hH ?_; refine tk 14 hH ?_; refine tk 15 hH ?_; refine tk 16 hH ?_; refine tk 17 hH ?_; refine st 18 fun K hK => ?_; go_simp
  (with_reducible refine Calls.cF (lnParamC (by omega)) ?_); intro w12 _ n12 d12 p12 i12; rw [HP2.out] at i12
  refine hd hK ?_; clear hH hK K; intro hH; refine st 19 fun K hK => ?_; go_simp; (with_reducible refine Calls.cE (ivHasV (k := k) (by omega) H2) ?_); intros; refine hd hK ?_; clear hH hK K; intro hH; refine tk 20 hH ?_; refine tk 21 hH ?_; refine dn ?_; clear hH; go_wp2_with fail
  refine ret_bt rfl Tryz.underlying152 rfl (by kernel_rfl) rfl rfl rfl ?_
  exact PFBRet.fin rfl (by omega) rfl (by omega)
theorem meetNY {w : World} {nx1 dx1 ny1 dy1 nz1 dz1 nu1 du1 nv1 dv1 nx2 dx2 ny2 dy2 nz2 dz2 nu2 du2 nv2 dv2 : Int} {px1 py1 pz1 pu1 pv1 px2 py2 pz2 pu2 pv2 : Option Addr} {f g : FG} {k : Nat} [jx1 : CF w (.agg #[.int .i64 nx1, .int .i64 dx1, .pointer px1]) (f.a : Rat) k] [jy1 : CF w (.agg #[.int .i64 ny1, .int .i64 dy1, .pointer py1]) (f.b : Rat) k] [jz1 : CF w (.agg #[.int .i64 nz1, .int .i64 dz1, .pointer pz1]) (f.c : Rat) k] [ju1 : CF w (.agg #[.int .i64 nu1, .int .i64 du1, .pointer pu1]) f.lo k] [jv1 : CF w (.agg #[.int .i64 nv1, .int .i64 dv1, .pointer pv1]) f.hi k] [jx2 : CF w (.agg #[.int .i64 nx2, .int .i64 dx2, .pointer px2]) (g.a : Rat) k] [jy2 : CF w (.agg #[.int .i64 ny2, .int .i64 dy2, .pointer py2]) (g.b : Rat) k] [jz2 : CF w (.agg #[.int .i64 nz2, .int .i64 dz2, .pointer pz2]) (g.c : Rat) k] [ju2 : CF w (.agg #[.int .i64 nu2, .int .i64 du2, .pointer pu2]) g.lo k] [jv2 : CF w (.agg #[.int .i64 nv2, .int .i64 dv2, .pointer pv2]) g.hi k] (b : k ≤ 100 ∧ 2 ≤ k) (hf : FGV f) (hg : FGV g) (hk : ¬ SmL f g) (hk2 : ¬ OpL f g) (HZ : Hid (decide ((f.a : Rat) * g.b - f.b * g.a = 0) = false)) (h1 : decide (inV f.lo f.hi (parL f.a f.b (mtX f g) (mtY f g))) = true) (h2 : decide (inV g.lo g.hi (parL g.a g.b (mtX f g) (mtY f g))) = true) :
    Calls Tryz.prog 106 #[.agg #[.int .i64 nx1, .int .i64 dx1, .pointer px1, .int .i64 ny1, .int .i64 dy1, .pointer py1, .int .i64 nz1, .int .i64 dz1, .pointer pz1, .int .i64 nu1, .int .i64 du1, .pointer pu1, .int .i64 nv1, .int .i64 dv1, .pointer pv1, .bool false, .bool false], .agg #[.int .i64 nx2, .int .i64 dx2, .pointer px2, .int .i64 ny2, .int .i64 dy2, .pointer py2, .int .i64 nz2, .int .i64 dz2, .pointer pz2, .int .i64 nu2, .int .i64 du2, .pointer pu2, .int .i64 nv2, .int .i64 dv2, .pointer pv2, .bool false, .bool false]] w (PFBRet w (mtX f g) (mtY f g) true (18 * k + 120)) := by
  obtain ⟨X, hX⟩ : ∃ X, mtX f g = X := ⟨_, rfl⟩; obtain ⟨Y, hY⟩ : ∃ Y, mtY f g = Y := ⟨_, rfl⟩
  have HX : Hid (((f.b : Rat) * g.c - f.c * g.b) / ((f.a : Rat) * g.b - f.b * g.a) = X) := Lib.hid (by rw [← hX]; rfl)
  have HY : Hid (((f.c : Rat) * g.a - f.a * g.c) / ((f.a : Rat) * g.b - f.b * g.a) = Y) := Lib.hid (by rw [← hY]; rfl)
  rw [hX, hY] at h1 h2 ⊢; clear hX hY; obtain ⟨P1, hP1⟩ : ∃ P, parL f.a f.b X Y = P := ⟨_, rfl⟩
  have HP1 : Hid (((f.b : Rat) * X + -(f.a : Rat) * Y) / ((f.b : Rat) * f.b + -(f.a : Rat) * -(f.a : Rat)) = P1) := Lib.hid (by rw [← hP1]; rfl)
  rw [hP1] at h1; have H1 := Lib.hid h1; clear hP1 h1; obtain ⟨P2, hP2⟩ : ∃ P, parL g.a g.b X Y = P := ⟨_, rfl⟩
  have HP2 : Hid (((g.b : Rat) * X + -(g.a : Rat) * Y) / ((g.b : Rat) * g.b + -(g.a : Rat) * -(g.a : Rat)) = P2) := Lib.hid (by rw [← hP2]; rfl)
  rw [hP2] at h2; have H2 := Lib.hid h2; clear hP2 h2; go_enter Tryz.func106, Tryz.ntmps106
  go_upto_region 4 with (first
    | (with_reducible refine step_ld (t := 182) (x := .tmp 3) rfl rfl rfl (load_box Tryz.underlying182 rfl (by kernel_rfl)) ?_)
        | (go_at_call 163; (with_reducible refine Calls.cIvB (ontoN (f := f) (g := g) (by omega) hk hk2) ?_); intro w1 _ nu du pu nv dv pv iu iv)
    | (go_at_call 164; (with_reducible refine Calls.cPFB (gMeetOk (by omega) HZ) ?_); intro w2 _ n7 d7 p7 n8 d8 p8 i7 i8; rw [HX.out] at i7; rw [HY.out] at i8))
  refine rgn [] [] fun hH => ?_; refine tk 0 hH ?_; refine tk 1 hH ?_; refine tk 2 hH ?_; refine tk 3 hH ?_; refine tk 4 hH ?_; refine tk 5 hH ?_; refine tk 6 hH ?_; refine tk 7 hH ?_; refine st 8 fun K hK => ?_; go_simp
  (with_reducible refine Calls.cF (lnParamC (by omega)) ?_); intro w11 _ n11 d11 p11 i11; rw [HP1.out] at i11
  refine hd hK ?_; clear hH hK K; intro hH; refine st 9 fun K hK => ?_; go_simp; (with_reducible refine Calls.cE (ivHasV (k := k) (by omega) H1) ?_); intros; refine hd hK ?_; clear hH hK K; intro hH; refine tk 10 hH ?_; refine tk 11 hH ?_; refine tk 12 hH ?_; refine tk 13 hH ?_; refine tk 14 hH ?_; refine tk 15 hH ?_; refine tk 16 hH ?_; refine tk 17 hH ?_; refine st 18 fun K hK => ?_; go_simp
  (with_reducible refine Calls.cF (lnParamC (by omega)) ?_); intro w12 _ n12 d12 p12 i12; rw [HP2.out] at i12
  refine hd hK ?_; clear hH hK K; intro hH; refine st 19 fun K hK => ?_; go_simp; (with_reducible refine Calls.cE (ivHasV (k := k) (by omega) H2) ?_); intros; refine hd hK ?_; clear hH hK K; intro hH; refine tk 20 hH ?_; refine tk 21 hH ?_; refine dn ?_; clear hH; go_wp2_with fail
  refine ret_bt rfl Tryz.underlying152 rfl (by kernel_rfl) rfl rfl rfl ?_
  exact PFBRet.fin rfl (by omega) rfl (by omega)
theorem PFBRet.cast {w w' : World} {x y x' y' : Rat} {v : Bool} {k : Nat} {e : Ending} (h : PFBRet w x y v k e w') (hx : x = x') (hy : y = y') : PFBRet w x' y' v k e w' := hx ▸ hy ▸ h
theorem frMeetOk {w : World} {nx1 dx1 ny1 dy1 nz1 dz1 nu1 du1 nv1 dv1 nx2 dx2 ny2 dy2 nz2 dz2 nu2 du2 nv2 dv2 : Int} {px1 py1 pz1 pu1 pv1 px2 py2 pz2 pu2 pv2 : Option Addr} {f g : FG} {k : Nat} [jx1 : CF w (.agg #[.int .i64 nx1, .int .i64 dx1, .pointer px1]) (f.a : Rat) k] [jy1 : CF w (.agg #[.int .i64 ny1, .int .i64 dy1, .pointer py1]) (f.b : Rat) k] [jz1 : CF w (.agg #[.int .i64 nz1, .int .i64 dz1, .pointer pz1]) (f.c : Rat) k] [ju1 : CF w (.agg #[.int .i64 nu1, .int .i64 du1, .pointer pu1]) f.lo k] [jv1 : CF w (.agg #[.int .i64 nv1, .int .i64 dv1, .pointer pv1]) f.hi k] [jx2 : CF w (.agg #[.int .i64 nx2, .int .i64 dx2, .pointer px2]) (g.a : Rat) k] [jy2 : CF w (.agg #[.int .i64 ny2, .int .i64 dy2, .pointer py2]) (g.b : Rat) k] [jz2 : CF w (.agg #[.int .i64 nz2, .int .i64 dz2, .pointer pz2]) (g.c : Rat) k] [ju2 : CF w (.agg #[.int .i64 nu2, .int .i64 du2, .pointer pu2]) g.lo k] [jv2 : CF w (.agg #[.int .i64 nv2, .int .i64 dv2, .pointer pv2]) g.hi k] (b : k ≤ 100 ∧ 2 ≤ k) (hf : FGV f) (hg : FGV g) {x y : Rat} (hm : MtP f g (x, y)) :
    Calls Tryz.prog 106 #[.agg #[.int .i64 nx1, .int .i64 dx1, .pointer px1, .int .i64 ny1, .int .i64 dy1, .pointer py1, .int .i64 nz1, .int .i64 dz1, .pointer pz1, .int .i64 nu1, .int .i64 du1, .pointer pu1, .int .i64 nv1, .int .i64 dv1, .pointer pv1, .bool false, .bool false], .agg #[.int .i64 nx2, .int .i64 dx2, .pointer px2, .int .i64 ny2, .int .i64 dy2, .pointer py2, .int .i64 nz2, .int .i64 dz2, .pointer pz2, .int .i64 nu2, .int .i64 du2, .pointer pu2, .int .i64 nv2, .int .i64 dv2, .pointer pv2, .bool false, .bool false]] w (PFBRet w x y true (18 * k + 120)) := by
  by_cases hk : SmL f g
  · have hl : g.lo < g.hi := by have := hg.lt; grind
    have ho : OntoP f g (g.lo) (g.hi) := OntoP.same hk
    by_cases c1 : f.hi = g.lo
    · refine (meetSH b hf hg hk (Lib.hid (decide_eq_true c1))).mono fun e w' h => h.cast ?_ ?_
      · exact congrArg Prod.fst ((OntoP.hi_lo hf hl ho c1).uniq hm)
      · exact congrArg Prod.snd ((OntoP.hi_lo hf hl ho c1).uniq hm)
    · by_cases c2 : f.lo = g.hi
      · refine (meetSL b hf hg hk (Lib.hid (decide_eq_false c1)) (Lib.hid (decide_eq_true c2))).mono fun e w' h => h.cast ?_ ?_
        · exact congrArg Prod.fst ((OntoP.lo_hi hf hl ho c2).uniq hm)
        · exact congrArg Prod.snd ((OntoP.lo_hi hf hl ho c2).uniq hm)
      · exact absurd hm (OntoP.no hf hl ho c1 c2)
  by_cases hk2 : OpL f g
  · have hk := hk2
    have hl : -g.hi < -g.lo := by have := hg.lt; grind
    have ho : OntoP f g (-g.hi) (-g.lo) := OntoP.opp hk
    by_cases c1 : f.hi = -g.hi
    · refine (meetOH b hf hg hk (Lib.hid (decide_eq_true c1))).mono fun e w' h => h.cast ?_ ?_
      · exact congrArg Prod.fst ((OntoP.hi_lo hf hl ho c1).uniq hm)
      · exact congrArg Prod.snd ((OntoP.hi_lo hf hl ho c1).uniq hm)
    · by_cases c2 : f.lo = -g.lo
      · refine (meetOL b hf hg hk (Lib.hid (decide_eq_false c1)) (Lib.hid (decide_eq_true c2))).mono fun e w' h => h.cast ?_ ?_
        · exact congrArg Prod.fst ((OntoP.lo_hi hf hl ho c2).uniq hm)
        · exact congrArg Prod.snd ((OntoP.lo_hi hf hl ho c2).uniq hm)
      · exact absurd hm (OntoP.no hf hl ho c1 c2)
  by_cases hd : dtL f g = 0
  · exact absurd hm (par_no hf hg hk hk2 hd)
  · by_cases h1 : inV f.lo f.hi (parL f.a f.b (mtX f g) (mtY f g))
    · by_cases h2 : inV g.lo g.hi (parL g.a g.b (mtX f g) (mtY f g))
      · refine (meetNY b hf hg hk hk2 (Lib.hid (decide_eq_false hd)) (decide_eq_true h1) (decide_eq_true h2)).mono fun e w' h => h.cast ?_ ?_
        · exact congrArg Prod.fst (mt_eq hd hm).symm
        · exact congrArg Prod.snd (mt_eq hd hm).symm
      · exact absurd hm (mt_no2 hd h2)
    · exact absurd hm (mt_no1 hd h1)
theorem frMeetNo {w : World} {nx1 dx1 ny1 dy1 nz1 dz1 nu1 du1 nv1 dv1 nx2 dx2 ny2 dy2 nz2 dz2 nu2 du2 nv2 dv2 : Int} {px1 py1 pz1 pu1 pv1 px2 py2 pz2 pu2 pv2 : Option Addr} {f g : FG} {k : Nat} [jx1 : CF w (.agg #[.int .i64 nx1, .int .i64 dx1, .pointer px1]) (f.a : Rat) k] [jy1 : CF w (.agg #[.int .i64 ny1, .int .i64 dy1, .pointer py1]) (f.b : Rat) k] [jz1 : CF w (.agg #[.int .i64 nz1, .int .i64 dz1, .pointer pz1]) (f.c : Rat) k] [ju1 : CF w (.agg #[.int .i64 nu1, .int .i64 du1, .pointer pu1]) f.lo k] [jv1 : CF w (.agg #[.int .i64 nv1, .int .i64 dv1, .pointer pv1]) f.hi k] [jx2 : CF w (.agg #[.int .i64 nx2, .int .i64 dx2, .pointer px2]) (g.a : Rat) k] [jy2 : CF w (.agg #[.int .i64 ny2, .int .i64 dy2, .pointer py2]) (g.b : Rat) k] [jz2 : CF w (.agg #[.int .i64 nz2, .int .i64 dz2, .pointer pz2]) (g.c : Rat) k] [ju2 : CF w (.agg #[.int .i64 nu2, .int .i64 du2, .pointer pu2]) g.lo k] [jv2 : CF w (.agg #[.int .i64 nv2, .int .i64 dv2, .pointer pv2]) g.hi k] (b : k ≤ 100 ∧ 2 ≤ k) (hf : FGV f) (hg : FGV g) (hm : ∀ p, ¬ MtP f g p) :
    Calls Tryz.prog 106 #[.agg #[.int .i64 nx1, .int .i64 dx1, .pointer px1, .int .i64 ny1, .int .i64 dy1, .pointer py1, .int .i64 nz1, .int .i64 dz1, .pointer pz1, .int .i64 nu1, .int .i64 du1, .pointer pu1, .int .i64 nv1, .int .i64 dv1, .pointer pv1, .bool false, .bool false], .agg #[.int .i64 nx2, .int .i64 dx2, .pointer px2, .int .i64 ny2, .int .i64 dy2, .pointer py2, .int .i64 nz2, .int .i64 dz2, .pointer pz2, .int .i64 nu2, .int .i64 du2, .pointer pu2, .int .i64 nv2, .int .i64 dv2, .pointer pv2, .bool false, .bool false]] w (PFBRet w 0 0 false (18 * k + 120)) := by
  by_cases hk : SmL f g
  · have hl : g.lo < g.hi := by have := hg.lt; grind
    have ho : OntoP f g (g.lo) (g.hi) := OntoP.same hk
    by_cases c1 : f.hi = g.lo
    · exact absurd (OntoP.hi_lo hf hl ho c1) (hm _)
    · by_cases c2 : f.lo = g.hi
      · exact absurd (OntoP.lo_hi hf hl ho c2) (hm _)
      · exact meetSN b hf hg hk (Lib.hid (decide_eq_false c1)) (Lib.hid (decide_eq_false c2))
  by_cases hk2 : OpL f g
  · have hk := hk2
    have hl : -g.hi < -g.lo := by have := hg.lt; grind
    have ho : OntoP f g (-g.hi) (-g.lo) := OntoP.opp hk
    by_cases c1 : f.hi = -g.hi
    · exact absurd (OntoP.hi_lo hf hl ho c1) (hm _)
    · by_cases c2 : f.lo = -g.lo
      · exact absurd (OntoP.lo_hi hf hl ho c2) (hm _)
      · exact meetON b hf hg hk (Lib.hid (decide_eq_false c1)) (Lib.hid (decide_eq_false c2))
  by_cases hd : dtL f g = 0
  · exact meetNZ b hf hg hk hk2 (Lib.hid (decide_eq_true hd))
  · by_cases h1 : inV f.lo f.hi (parL f.a f.b (mtX f g) (mtY f g))
    · by_cases h2 : inV g.lo g.hi (parL g.a g.b (mtX f g) (mtY f g))
      · exact absurd (mt_ok hd h1 h2) (hm _)
      · exact meetNB b hf hg hk hk2 (Lib.hid (decide_eq_false hd)) (decide_eq_true h1) (decide_eq_false h2)
    · exact meetNA b hf hg hk hk2 (Lib.hid (decide_eq_false hd)) (decide_eq_false h1)
end
end Go.Proofs.YtdlnoeegboapkaaGreatDoor
