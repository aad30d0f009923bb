/-
  Texts of this claim, joined: Fn.
-/
import Derived.Test.YtdlnoeegboapkaaGreatDoorHKD
namespace Go.Proofs.YtdlnoeegboapkaaGreatDoor
open Go.RowKit
set_option linter.unusedVariables false
set_option maxHeartbeats 40000000
set_option maxRecDepth 100000
set_option synthInstance.maxHeartbeats 1000000
set_option synthInstance.maxSize 100000
section
def FzBRet (w : World) (v : Bool) (e : Ending) (w' : World) : Prop := ∃ (nx dx : Int) (px : Option Addr) (ny dy : Int) (py : Option Addr) (nz dz : Int) (pz : Option Addr) (nu du : Int) (pu : Option Addr) (nv dv : Int) (pv : Option Addr), e = .returned (.tuple #[.agg #[.int .i64 nx, .int .i64 dx, .pointer px, .int .i64 ny, .int .i64 dy, .pointer py, .int .i64 nz, .int .i64 dz, .pointer pz, .int .i64 nu, .int .i64 du, .pointer pu, .int .i64 nv, .int .i64 dv, .pointer pv, .bool false, .bool false], .bool v]) ∧ Below w.heap.size w w'
theorem Calls.cFzB {P : Program} {f : FuncId} {args : Array Value} {w : World} {v : Bool} {K : Ending → World → Prop} (h : Calls P f args w (FzBRet w v))
    (hK : ∀ w' [Kp1 w w'] (nx dx : Int) (px : Option Addr) (ny dy : Int) (py : Option Addr) (nz dz : Int) (pz : Option Addr) (nu du : Int) (pu : Option Addr) (nv dv : Int) (pv : Option Addr), K (.returned (.tuple #[.agg #[.int .i64 nx, .int .i64 dx, .pointer px, .int .i64 ny, .int .i64 dy, .pointer py, .int .i64 nz, .int .i64 dz, .pointer pz, .int .i64 nu, .int .i64 du, .pointer pu, .int .i64 nv, .int .i64 dv, .pointer pv, .bool false, .bool false], .bool v])) w') : Calls P f args w K := by
  refine h.mono ?_
  rintro e w' ⟨nx, dx, px, ny, dy, py, nz, dz, pz, nu, du, pu, nv, dv, pv, rfl, hb⟩
  exact @hK w' ⟨hb⟩ nx dx px ny dy py nz dz pz nu du pu nv dv pv
theorem FzBRet.fin {w w' : World} {nx dx ny dy nz dz nu du nv dv : Int} {px py pz pu pv : Option Addr} {v : Bool} [b : Kp w w'] : FzBRet w v (.returned (.tuple #[.agg #[.int .i64 nx, .int .i64 dx, .pointer px, .int .i64 ny, .int .i64 dy, .pointer py, .int .i64 nz, .int .i64 dz, .pointer pz, .int .i64 nu, .int .i64 du, .pointer pu, .int .i64 nv, .int .i64 dv, .pointer pv, .bool false, .bool false], .bool v])) w' := ⟨_, _, _, _, _, _, _, _, _, _, _, _, _, _, _, rfl, b.out⟩
theorem overlapS {w : World} {v : Bool} {nx1 dx1 ny1 dy1 nz1 dz1 nu1 du1 nv1 dv1 nx2 dx2 ny2 dy2 nz2 dz2 nu2 du2 nv2 dv2 : Int} {px1 py1 pz1 pu1 pv1 px2 py2 pz2 pu2 pv2 : Option Addr} {f g : FG} {k : Nat} [jx1 : CF w (.agg #[.int .i64 nx1, .int .i64 dx1, .pointer px1]) (f.a : Rat) k] [jy1 : CF w (.agg #[.int .i64 ny1, .int .i64 dy1, .pointer py1]) (f.b : Rat) k] [jz1 : CF w (.agg #[.int .i64 nz1, .int .i64 dz1, .pointer pz1]) (f.c : Rat) k] [ju1 : CF w (.agg #[.int .i64 nu1, .int .i64 du1, .pointer pu1]) f.lo k] [jv1 : CF w (.agg #[.int .i64 nv1, .int .i64 dv1, .pointer pv1]) f.hi k] [jx2 : CF w (.agg #[.int .i64 nx2, .int .i64 dx2, .pointer px2]) (g.a : Rat) k] [jy2 : CF w (.agg #[.int .i64 ny2, .int .i64 dy2, .pointer py2]) (g.b : Rat) k] [jz2 : CF w (.agg #[.int .i64 nz2, .int .i64 dz2, .pointer pz2]) (g.c : Rat) k] [ju2 : CF w (.agg #[.int .i64 nu2, .int .i64 du2, .pointer pu2]) g.lo k] [jv2 : CF w (.agg #[.int .i64 nv2, .int .i64 dv2, .pointer pv2]) g.hi k] (b : k ≤ 100 ∧ 2 ≤ k) (hf : FGV f) (hg : FGV g) (hk : SmL f g) (hv : Hid (OvP f g ↔ v = true)) :
    Calls Tryz.prog 107 #[.agg #[.int .i64 nx1, .int .i64 dx1, .pointer px1, .int .i64 ny1, .int .i64 dy1, .pointer py1, .int .i64 nz1, .int .i64 dz1, .pointer pz1, .int .i64 nu1, .int .i64 du1, .pointer pu1, .int .i64 nv1, .int .i64 dv1, .pointer pv1, .bool false, .bool false], .agg #[.int .i64 nx2, .int .i64 dx2, .pointer px2, .int .i64 ny2, .int .i64 dy2, .pointer py2, .int .i64 nz2, .int .i64 dz2, .pointer pz2, .int .i64 nu2, .int .i64 du2, .pointer pu2, .int .i64 nv2, .int .i64 dv2, .pointer pv2, .bool false, .bool false]] w (FzBRet w v) := by
  have hl : g.lo < g.hi := by have := hg.lt; grind
  have HV : Hid (decide (rmax f.lo (g.lo) < rmin f.hi (g.hi)) = v) := Lib.hid (by
    have h := (ov_mm hf hl (OntoP.same hk)).symm.trans hv.out
    cases v
    · exact decide_eq_false fun e => by have := h.1 e; cases this
    · exact decide_eq_true (h.2 rfl))
  clear hv
  cases v
  all_goals
    go_enter Tryz.func107, Tryz.ntmps107
    go_wp2_with (first
      | (with_reducible refine step_ld (t := 182) (x := .tmp 3) rfl rfl rfl (load_box Tryz.underlying182 rfl (by kernel_rfl)) ?_)
        | (go_at_call 163; (with_reducible refine Calls.cIvB (ontoS (f := f) (g := g) (by omega) hk) ?_); intro w1 _ nu du pu nv dv pv iu iv)
      | (go_at_call 169; (with_reducible refine Calls.cIvB (ivMeetV (k := k) (by omega) HV) ?_); intro w2 _ nu2 du2 pu2 nv2 dv2 pv2 iu2 iv2))
    refine ret_bt rfl Tryz.underlying182 rfl (by kernel_rfl) rfl rfl rfl ?_
    exact FzBRet.fin
theorem overlapO {w : World} {v : Bool} {nx1 dx1 ny1 dy1 nz1 dz1 nu1 du1 nv1 dv1 nx2 dx2 ny2 dy2 nz2 dz2 nu2 du2 nv2 dv2 : Int} {px1 py1 pz1 pu1 pv1 px2 py2 pz2 pu2 pv2 : Option Addr} {f g : FG} {k : Nat} [jx1 : CF w (.agg #[.int .i64 nx1, .int .i64 dx1, .pointer px1]) (f.a : Rat) k] [jy1 : CF w (.agg #[.int .i64 ny1, .int .i64 dy1, .pointer py1]) (f.b : Rat) k] [jz1 : CF w (.agg #[.int .i64 nz1, .int .i64 dz1, .pointer pz1]) (f.c : Rat) k] [ju1 : CF w (.agg #[.int .i64 nu1, .int .i64 du1, .pointer pu1]) f.lo k] [jv1 : CF w (.agg #[.int .i64 nv1, .int .i64 dv1, .pointer pv1]) f.hi k] [jx2 : CF w (.agg #[.int .i64 nx2, .int .i64 dx2, .pointer px2]) (g.a : Rat) k] [jy2 : CF w (.agg #[.int .i64 ny2, .int .i64 dy2, .pointer py2]) (g.b : Rat) k] [jz2 : CF w (.agg #[.int .i64 nz2, .int .i64 dz2, .pointer pz2]) (g.c : Rat) k] [ju2 : CF w (.agg #[.int .i64 nu2, .int .i64 du2, .pointer pu2]) g.lo k] [jv2 : CF w (.agg #[.int .i64 nv2, .int .i64 dv2, .pointer pv2]) g.hi k] (b : k ≤ 100 ∧ 2 ≤ k) (hf : FGV f) (hg : FGV g) (hk : OpL f g) (hv : Hid (OvP f g ↔ v = true)) :
    Calls Tryz.prog 107 #[.agg #[.int .i64 nx1, .int .i64 dx1, .pointer px1, .int .i64 ny1, .int .i64 dy1, .pointer py1, .int .i64 nz1, .int .i64 dz1, .pointer pz1, .int .i64 nu1, .int .i64 du1, .pointer pu1, .int .i64 nv1, .int .i64 dv1, .pointer pv1, .bool false, .bool false], .agg #[.int .i64 nx2, .int .i64 dx2, .pointer px2, .int .i64 ny2, .int .i64 dy2, .pointer py2, .int .i64 nz2, .int .i64 dz2, .pointer pz2, .int .i64 nu2, .int .i64 du2, .pointer pu2, .int .i64 nv2, .int .i64 dv2, .pointer pv2, .bool false, .bool false]] w (FzBRet w v) := by
  have hl : -g.hi < -g.lo := by have := hg.lt; grind
  have HV : Hid (decide (rmax f.lo (-g.hi) < rmin f.hi (-g.lo)) = v) := Lib.hid (by
    have h := (ov_mm hf hl (OntoP.opp hk)).symm.trans hv.out
    cases v
    · exact decide_eq_false fun e => by have := h.1 e; cases this
    · exact decide_eq_true (h.2 rfl))
  clear hv
  cases v
  all_goals
    go_enter Tryz.func107, Tryz.ntmps107
    go_wp2_with (first
      | (with_reducible refine step_ld (t := 182) (x := .tmp 3) rfl rfl rfl (load_box Tryz.underlying182 rfl (by kernel_rfl)) ?_)
        | (go_at_call 163; (with_reducible refine Calls.cIvB (ontoO (f := f) (g := g) (by omega) hk hf) ?_); intro w1 _ nu du pu nv dv pv iu iv)
      | (go_at_call 169; (with_reducible refine Calls.cIvB (ivMeetV (k := k) (by omega) HV) ?_); intro w2 _ nu2 du2 pu2 nv2 dv2 pv2 iu2 iv2))
    refine ret_bt rfl Tryz.underlying182 rfl (by kernel_rfl) rfl rfl rfl ?_
    exact FzBRet.fin
theorem overlapN {w : World} {v : Bool} {nx1 dx1 ny1 dy1 nz1 dz1 nu1 du1 nv1 dv1 nx2 dx2 ny2 dy2 nz2 dz2 nu2 du2 nv2 dv2 : Int} {px1 py1 pz1 pu1 pv1 px2 py2 pz2 pu2 pv2 : Option Addr} {f g : FG} {k : Nat} [jx1 : CF w (.agg #[.int .i64 nx1, .int .i64 dx1, .pointer px1]) (f.a : Rat) k] [jy1 : CF w (.agg #[.int .i64 ny1, .int .i64 dy1, .pointer py1]) (f.b : Rat) k] [jz1 : CF w (.agg #[.int .i64 nz1, .int .i64 dz1, .pointer pz1]) (f.c : Rat) k] [ju1 : CF w (.agg #[.int .i64 nu1, .int .i64 du1, .pointer pu1]) f.lo k] [jv1 : CF w (.agg #[.int .i64 nv1, .int .i64 dv1, .pointer pv1]) f.hi k] [jx2 : CF w (.agg #[.int .i64 nx2, .int .i64 dx2, .pointer px2]) (g.a : Rat) k] [jy2 : CF w (.agg #[.int .i64 ny2, .int .i64 dy2, .pointer py2]) (g.b : Rat) k] [jz2 : CF w (.agg #[.int .i64 nz2, .int .i64 dz2, .pointer pz2]) (g.c : Rat) k] [ju2 : CF w (.agg #[.int .i64 nu2, .int .i64 du2, .pointer pu2]) g.lo k] [jv2 : CF w (.agg #[.int .i64 nv2, .int .i64 dv2, .pointer pv2]) g.hi k] (b : k ≤ 100 ∧ 2 ≤ k) (hf : FGV f) (hg : FGV g) (hk : ¬ SmL f g) (hk2 : ¬ OpL f g) (hv : Hid (OvP f g ↔ v = true)) :
    Calls Tryz.prog 107 #[.agg #[.int .i64 nx1, .int .i64 dx1, .pointer px1, .int .i64 ny1, .int .i64 dy1, .pointer py1, .int .i64 nz1, .int .i64 dz1, .pointer pz1, .int .i64 nu1, .int .i64 du1, .pointer pu1, .int .i64 nv1, .int .i64 dv1, .pointer pv1, .bool false, .bool false], .agg #[.int .i64 nx2, .int .i64 dx2, .pointer px2, .int .i64 ny2, .int .i64 dy2, .pointer py2, .int .i64 nz2, .int .i64 dz2, .pointer pz2, .int .i64 nu2, .int .i64 du2, .pointer pu2, .int .i64 nv2, .int .i64 dv2, .pointer pv2, .bool false, .bool false]] w (FzBRet w v) := by
  have hv' : v = false := by
    cases v
    · rfl
    · exact absurd (hv.out.2 rfl) (no_ov hf hg hk hk2)
  subst hv'
  clear hv; go_enter Tryz.func107, Tryz.ntmps107
  go_wp2_with (first
    | (with_reducible refine step_ld (t := 182) (x := .tmp 3) rfl rfl rfl (load_box Tryz.underlying182 rfl (by kernel_rfl)) ?_)
        | (go_at_call 163; (with_reducible refine Calls.cIvB (ontoN (f := f) (g := g) (by omega) hk hk2) ?_); intro w1 _ nu du pu nv dv pv iu iv))
  refine ret_bt rfl Tryz.underlying182 rfl (by kernel_rfl) rfl rfl rfl ?_
  exact FzBRet.fin
theorem overlapV {w : World} {v : Bool} {nx1 dx1 ny1 dy1 nz1 dz1 nu1 du1 nv1 dv1 nx2 dx2 ny2 dy2 nz2 dz2 nu2 du2 nv2 dv2 : Int} {px1 py1 pz1 pu1 pv1 px2 py2 pz2 pu2 pv2 : Option Addr} {f g : FG} {k : Nat} [jx1 : CF w (.agg #[.int .i64 nx1, .int .i64 dx1, .pointer px1]) (f.a : Rat) k] [jy1 : CF w (.agg #[.int .i64 ny1, .int .i64 dy1, .pointer py1]) (f.b : Rat) k] [jz1 : CF w (.agg #[.int .i64 nz1, .int .i64 dz1, .pointer pz1]) (f.c : Rat) k] [ju1 : CF w (.agg #[.int .i64 nu1, .int .i64 du1, .pointer pu1]) f.lo k] [jv1 : CF w (.agg #[.int .i64 nv1, .int .i64 dv1, .pointer pv1]) f.hi k] [jx2 : CF w (.agg #[.int .i64 nx2, .int .i64 dx2, .pointer px2]) (g.a : Rat) k] [jy2 : CF w (.agg #[.int .i64 ny2, .int .i64 dy2, .pointer py2]) (g.b : Rat) k] [jz2 : CF w (.agg #[.int .i64 nz2, .int .i64 dz2, .pointer pz2]) (g.c : Rat) k] [ju2 : CF w (.agg #[.int .i64 nu2, .int .i64 du2, .pointer pu2]) g.lo k] [jv2 : CF w (.agg #[.int .i64 nv2, .int .i64 dv2, .pointer pv2]) g.hi k] (b : k ≤ 100 ∧ 2 ≤ k) (hf : FGV f) (hg : FGV g) (hv : Hid (OvP f g ↔ v = true)) :
    Calls Tryz.prog 107 #[.agg #[.int .i64 nx1, .int .i64 dx1, .pointer px1, .int .i64 ny1, .int .i64 dy1, .pointer py1, .int .i64 nz1, .int .i64 dz1, .pointer pz1, .int .i64 nu1, .int .i64 du1, .pointer pu1, .int .i64 nv1, .int .i64 dv1, .pointer pv1, .bool false, .bool false], .agg #[.int .i64 nx2, .int .i64 dx2, .pointer px2, .int .i64 ny2, .int .i64 dy2, .pointer py2, .int .i64 nz2, .int .i64 dz2, .pointer pz2, .int .i64 nu2, .int .i64 du2, .pointer pu2, .int .i64 nv2, .int .i64 dv2, .pointer pv2, .bool false, .bool false]] w (FzBRet w v) := by
  by_cases h1 : SmL f g
  · exact overlapS b hf hg h1 hv
  · by_cases h2 : OpL f g
    · exact overlapO b hf hg h2 hv
    · exact overlapN b hf hg h1 h2 hv
end
end Go.Proofs.YtdlnoeegboapkaaGreatDoor
