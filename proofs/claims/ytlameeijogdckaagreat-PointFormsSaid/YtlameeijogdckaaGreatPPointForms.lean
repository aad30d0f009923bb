/-
  The law PointForms: for every input the call returns true, and each argument reads afterwards as it read before. No condition.
-/
import Derived.Test.YtlameeijogdckaaGreatRows
import Derived.Test.YtlameeijogdckaaGreatLawPForms
import Derived.Test.YtlameeijogdckaaGreatNPO
import Derived.WalkKit
import Derived.ProofKit
import Derived.OpenShut
import Derived.ShutString
import Derived.ChangeOld
import Derived.Below
namespace Go.Proofs.YtlameeijogdckaaGreat.pointForms
open Go.ChangeShapes Go.WideShapes Go.ChangeAt Go.RowKit
open Go.ChangeMaps (open_string shut_string)
set_option linter.unusedVariables false

theorem own : ownKnob Tryz.prog.godebug = none := by kernel_rfl
theorem laidOut : laidOutB Tryz.prog = true := by kernel_rfl

/-- The walk. -/
theorem walk (g0 : Bool) (a0 : Option Addr) (l0 c0 : Nat) (z0 : List Int) (aa0 : Option Addr) (ll0 cc0 : Nat) (zz0 : List Int) (G0 : Bool) (A0 : Option Addr) (L0 C0 : Nat) (Z0 : List Int) (AA0 : Option Addr) (LL0 CC0 : Nat) (ZZ0 : List Int) (g1 : Bool) (a1 : Option Addr) (l1 c1 : Nat) (z1 : List Int) (aa1 : Option Addr) (ll1 cc1 : Nat) (zz1 : List Int) (G1 : Bool) (A1 : Option Addr) (L1 C1 : Nat) (Z1 : List Int) (AA1 : Option Addr) (LL1 CC1 : Nat) (ZZ1 : List Int) (a2 : Int) (a3 : Int) (w : World) (w0a : IsRow .u32 w a0 l0 c0 z0) (w0b : IsRow .u32 w aa0 ll0 cc0 zz0) (w0c : IsRow .u32 w A0 L0 C0 Z0) (w0d : IsRow .u32 w AA0 LL0 CC0 ZZ0) (w1a : IsRow .u32 w a1 l1 c1 z1) (w1b : IsRow .u32 w aa1 ll1 cc1 zz1) (w1c : IsRow .u32 w A1 L1 C1 Z1) (w1d : IsRow .u32 w AA1 LL1 CC1 ZZ1) (w2 : (Lit.int .i64 a2).wf = true) (w3 : (Lit.int .i64 a3).wf = true) :
    Calls Tryz.prog 3 #[.agg #[.bool g0, .slice a0 l0 c0, .slice aa0 ll0 cc0, .bool G0, .slice A0 L0 C0, .slice AA0 LL0 CC0], .agg #[.bool g1, .slice a1 l1 c1, .slice aa1 ll1 cc1, .bool G1, .slice A1 L1 C1, .slice AA1 LL1 CC1], .int .i64 a2, .int .i64 a3] w fun e w' => e = .returned (.bool true) ∧ Below w.heap.size w w' := by
  exact pointForms_walk g0 a0 l0 c0 z0 aa0 ll0 cc0 zz0 G0 A0 L0 C0 Z0 AA0 LL0 CC0 ZZ0 g1 a1 l1 c1 z1 aa1 ll1 cc1 zz1 G1 A1 L1 C1 Z1 AA1 LL1 CC1 ZZ1 a2 a3 w w0a w0b w0c w0d w1a w1b w1c w1d w2 w3

set_option maxRecDepth 100000 in
theorem lifted (os : Os) (started : os.Started) (H : Type) (enc : TypeId × Value → H) :
    ReturnsInHanded {} Tryz.checked os 3 .any (Rows.pointFormsSpec.pre6 enc Tryz.prog Tryz.f3 Rows.pointFormsRow.domain false) (Rows.pointFormsSpec.post enc Tryz.prog Tryz.f3 false true false false) := by
  refine returnsInHanded_of_change (C := Tryz.checked) own started (by kernel_rfl) Tryz.func3
    (ChangeSpec.witness6 (enc := enc) (C := Tryz.checked) false ⟨#[], #[.agg #[.bool false, .slice none 0 0, .slice none 0 0, .bool false, .slice none 0 0, .slice none 0 0], .agg #[.bool false, .slice none 0 0, .slice none 0 0, .bool false, .slice none 0 0, .slice none 0 0], .int .i64 0, .int .i64 0], []⟩ 8 (by kernel_rfl) (by kernel_rfl) (by kernel_rfl) (by kernel_rfl)) ?_
  intro W base args ds gs before hval0 hW hcnd _
  have hval : ∀ (j : Nat) t v, Tryz.f3.params[j]? = some t → args[j]? = some v → Value.okWide Tryz.prog W .any base t v := hval0
  have hW' := hW
  obtain ⟨p, q, hA0, hV, rfl, hfz, hnd⟩ := hW
  have hA : DataW.TrodAll enc Tryz.prog W 0 (fun _ => true) true Tryz.f3.params.toList args.toList ds p := hA0
  rw [Tryz.params3] at hA hval
  obtain ⟨v0, vs0, d0, ds0, p0, q0, hargs, rfl, rfl, h0, r0⟩ := trodAll_cons hA
  obtain ⟨v1, vs1, d1, ds1, p1, q1, rfl, rfl, rfl, h1, r1⟩ := trodAll_cons r0
  obtain ⟨v2, vs2, d2, ds2, p2, q2, rfl, rfl, rfl, h2, r2⟩ := trodAll_cons r1
  obtain ⟨v3, vs3, d3, ds3, p3, q3, rfl, rfl, rfl, h3, r3⟩ := trodAll_cons r2
  obtain ⟨rfl, rfl, rfl⟩ := trodAll_nil r3
  obtain rfl : args = #[v0, v1, v2, v3] := by cases args; simp_all
  obtain ⟨rfl, rfl⟩ := trodVars_none hV
  have k0 := h0
  have lt0 : ∀ x ∈ p0, x.block < W.heap.size := by obtain ⟨m, hm⟩ := k0; exact DataW.trod_lt m _ _ _ hm
  obtain ⟨g0, a0, l0, c0, z0, aa0, ll0, cc0, zz0, G0, A0, L0, C0, Z0, AA0, LL0, CC0, ZZ0, rfl, w0a, w0b, w0c, w0d⟩ := op_point (hval 0 29 v0 rfl rfl) h0
  have k1 := h1
  have lt1 : ∀ x ∈ p1, x.block < W.heap.size := by obtain ⟨m, hm⟩ := k1; exact DataW.trod_lt m _ _ _ hm
  obtain ⟨g1, a1, l1, c1, z1, aa1, ll1, cc1, zz1, G1, A1, L1, C1, Z1, AA1, LL1, CC1, ZZ1, rfl, w1a, w1b, w1c, w1d⟩ := op_point (hval 1 29 v1 rfl rfl) h1
  obtain ⟨a2, rfl, rfl, rfl, w2⟩ := open_int Tryz.underlying2 (hval 2 2 v2 rfl rfl) h2
  obtain ⟨a3, rfl, rfl, rfl, w3⟩ := open_int Tryz.underlying2 (hval 3 2 v3 rfl rfl) h3
  clear hA0 hval0
  refine (walk g0 a0 l0 c0 z0 aa0 ll0 cc0 zz0 G0 A0 L0 C0 Z0 AA0 LL0 CC0 ZZ0 g1 a1 l1 c1 z1 aa1 ll1 cc1 zz1 G1 A1 L1 C1 Z1 AA1 LL1 CC1 ZZ1 a2 a3 W w0a w0b w0c w0d w1a w1b w1c w1d w2 w3).mono fun e W' ⟨he, bel⟩ => ?_
  subst he
  exact ⟨_, rfl, _, _, _, [], _, [], hW', trodAll_mk1 (shut_bool Tryz.underlying4 _), (trodAll_cons_mk (Below.trod laidOut (by kernel_rfl) (of_decide_eq_true (by kernel_rfl)) k0 bel lt0) (trodAll_cons_mk (Below.trod laidOut (by kernel_rfl) (of_decide_eq_true (by kernel_rfl)) k1 bel lt1) (trodAll_cons_mk (shut_int Tryz.underlying2 w2) (trodAll_cons_mk (shut_int Tryz.underlying2 w3) trodAll_mk0)))), rfl, bel.frame _, fun h => by cases h⟩

theorem over : Rows.pointFormsRow.holds Tryz.pinned (OpenSpec.ofChange Rows.pointFormsSpec) :=
  OpenClaim.holds_of_wide 3 Tryz.f3 rfl rfl rfl rfl rfl rfl rfl ⟨rfl, rfl, rfl, rfl, rfl⟩ rfl rfl rfl rfl rfl (by kernel_rfl) Tryz.func3 (by kernel_rfl)
    (of_decide_eq_true (by kernel_rfl)) (by unfold Func.isWrapper; first | (rw [if_pos (by decide +kernel)]; kernel_rfl) | (rw [if_neg (by decide +kernel)]; exact ⟨rfl, rfl⟩))
    (fun os started H enc _ => lifted os started H enc)

/-- The statement. -/
theorem proved : Rows.PointFormsSaid := over
#print axioms proved
end Go.Proofs.YtlameeijogdckaaGreat.pointForms
