/-
  The law RationalForms: for every input the call returns true, and each argument reads afterwards as it read before. No condition, but that the listed variables hold what the initialisers of the program lay in them.
-/
import Derived.Test.YtfdgglddldlpjaaGreatDoorRows
import Derived.Test.YtfdgglddldlpjaaGreatDoorGR
import Derived.Test.YtfdgglddldlpjaaGreatDoorHLO
import Derived.Test.YtfdgglddldlpjaaGreatDoorTie
import Derived.Test.YtfdgglddldlpjaaGreatDoorJRationalForms
import Derived.Test.YtfdgglddldlpjaaGreatDoorCards
import Derived.WalkKit
import Derived.ProofKit
import Derived.OpenShut
import Derived.ShutString
import Derived.ChangeOld
import Derived.Below
import Derived.LaidMore
import Derived.SevenTiedAt
import Derived.Stop.Joined
namespace Go.Proofs.YtfdgglddldlpjaaGreatDoor.rationalForms
open Go.ChangeShapes Go.WideShapes Go.ChangeAt Go.RowKit
open Go.ChangeMaps (open_string shut_string)
set_option linter.unusedVariables false

theorem own : ownKnob Tryz.prog.godebug = none := by kernel_rfl
theorem laidOut : laidOutB Tryz.prog = true := by kernel_rfl

/-- The walk. -/
theorem walk (g0 : Bool) (a0 : Option Addr) (l0 c0 : Nat) (z0 : List Int) (aa0 : Option Addr) (ll0 cc0 : Nat) (zz0 : List Int) (g1 : Bool) (a1 : Option Addr) (l1 c1 : Nat) (z1 : List Int) (aa1 : Option Addr) (ll1 cc1 : Nat) (zz1 : List Int) (a2 : Int) (w : World) (w0a : IsRow .u32 w a0 l0 c0 z0) (w0b : IsRow .u32 w aa0 ll0 cc0 zz0) (w1a : IsRow .u32 w a1 l1 c1 z1) (w1b : IsRow .u32 w aa1 ll1 cc1 zz1) (w2 : (Lit.int .i64 a2).wf = true) (hL : laidMetH Tryz.prog laid3 w) :
    Calls Tryz.prog 3 #[.agg #[.bool g0, .slice a0 l0 c0, .slice aa0 ll0 cc0], .agg #[.bool g1, .slice a1 l1 c1, .slice aa1 ll1 cc1], .int .i64 a2] w fun e w' => e = .returned (.bool true) ∧ Below w.heap.size w w' := by
  exact rationalForms_walk g0 a0 l0 c0 z0 aa0 ll0 cc0 zz0 g1 a1 l1 c1 z1 aa1 ll1 cc1 zz1 a2 w w0a w0b w1a w1b w2 hL

theorem door_met (os : Os) (args : Array Value) : laidMetH Tryz.prog laid3 ((World.doorLaid Tryz.prog 400 os).forCall (fun _ _ => 0) ⟨#[], args, []⟩).memory :=
  laidMetH_of_parts3 (fuel := 8) (laidMet_of_run' 8 (by kernel_rfl) (by kernel_rfl)) (by kernel_rfl) (by kernel_rfl)

set_option maxRecDepth 100000 in
theorem lifted (os : Os) (started : os.Started) (H : Type) (enc : TypeId × Value → H) :
    ReturnsInHanded {} Tryz.checked os 3 .any (fun w args => (Rows.rationalFormsSpec.pre enc Tryz.prog Tryz.f3 [] false w args ∧ laidMetH Tryz.prog laid3 w) ∧ sizedMet enc Tryz.prog Tryz.f3 (OpenSpec.ofChange Rows.rationalFormsSpec) false w args)
      (Rows.rationalFormsSpec.post enc Tryz.prog Tryz.f3 false true false false) := by
  refine returnsInHanded_of_change_and (C := Tryz.checked) (X := fun w _ => laidMetH Tryz.prog laid3 w) (fun _ _ _ hh h => h.of_heap hh) own started (by kernel_rfl) Tryz.func3
    (ChangeSpec.witness_shaped (enc := enc) (C := Tryz.checked) (os := os) (X := fun w _ => laidMetH Tryz.prog laid3 w) false (World.doorLaid Tryz.prog 400 os) #[.agg #[.bool false, .slice none 0 0, .slice none 0 0], .agg #[.bool false, .slice none 0 0, .slice none 0 0], .int .i64 0] 8 rfl (World.shaped_of_RefB (by kernel_rfl) (by kernel_rfl)) (by kernel_rfl) (by kernel_rfl) (by kernel_rfl) (door_met os _)) ?_
  intro W base args ds gs before hval0 hW _ _ hL _
  have hval : ∀ (j : Nat) t v, Tryz.f3.params[j]? = some t → args[j]? = some v → Value.okWide Tryz.prog W .any base t v := hval0
  have hW' := hW
  obtain ⟨p, q, hA0, hV, rfl, hfz, hnd⟩ := hW
  have hA : DataW.TrodAll enc Tryz.prog W 0 (fun _ => true) true Tryz.f3.params.toList args.toList ds p := hA0
  rw [Tryz.params3] at hA hval
  obtain ⟨v0, vs0, d0, ds0, p0, q0, hargs, rfl, rfl, h0, r0⟩ := trodAll_cons hA
  obtain ⟨v1, vs1, d1, ds1, p1, q1, rfl, rfl, rfl, h1, r1⟩ := trodAll_cons r0
  obtain ⟨v2, vs2, d2, ds2, p2, q2, rfl, rfl, rfl, h2, r2⟩ := trodAll_cons r1
  obtain ⟨rfl, rfl, rfl⟩ := trodAll_nil r2
  obtain rfl : args = #[v0, v1, v2] := by cases args; simp_all
  obtain ⟨rfl, rfl⟩ := trodVars_none hV
  have k0 := h0
  have lt0 : ∀ x ∈ p0, x.block < W.heap.size := by obtain ⟨m, hm⟩ := k0; exact DataW.trod_lt m _ _ _ hm
  obtain ⟨g0, a0, l0, c0, z0, aa0, ll0, cc0, zz0, rfl, w0a, w0b⟩ := op_rat (hval 0 27 v0 rfl rfl) h0
  have k1 := h1
  have lt1 : ∀ x ∈ p1, x.block < W.heap.size := by obtain ⟨m, hm⟩ := k1; exact DataW.trod_lt m _ _ _ hm
  obtain ⟨g1, a1, l1, c1, z1, aa1, ll1, cc1, zz1, rfl, w1a, w1b⟩ := op_rat (hval 1 27 v1 rfl rfl) h1
  obtain ⟨a2, rfl, rfl, rfl, w2⟩ := open_int Tryz.underlying2 (hval 2 2 v2 rfl rfl) h2
  clear hA0 hval0
  refine (walk g0 a0 l0 c0 z0 aa0 ll0 cc0 zz0 g1 a1 l1 c1 z1 aa1 ll1 cc1 zz1 a2 W w0a w0b w1a w1b w2 hL).mono fun e W' ⟨he, bel⟩ => ?_
  subst he
  exact ⟨_, rfl, _, _, _, [], _, [], hW', trodAll_mk1 (shut_bool Tryz.underlying4 _), (trodAll_cons_mk (Below.trod laidOut (by kernel_rfl) (of_decide_eq_true (by kernel_rfl)) k0 bel lt0) (trodAll_cons_mk (Below.trod laidOut (by kernel_rfl) (of_decide_eq_true (by kernel_rfl)) k1 bel lt1) (trodAll_cons_mk (shut_int Tryz.underlying2 w2) trodAll_mk0))), rfl, bel.frame _, fun h => by cases h⟩

theorem over : Rows.rationalFormsRow.holds Tryz.pinned (OpenSpec.ofChange Rows.rationalFormsSpec) :=
  OpenClaim.holds_of_wide 3 Tryz.f3 rfl rfl rfl rfl rfl rfl rfl ⟨rfl, rfl, rfl, rfl, rfl⟩ rfl rfl rfl rfl rfl (by kernel_rfl) Tryz.func3 closedF
    (of_decide_eq_true (by kernel_rfl)) (by unfold Func.isWrapper; first | (rw [if_pos (by decide +kernel)]; kernel_rfl) | (rw [if_neg (by decide +kernel)]; exact ⟨rfl, rfl⟩))
    (fun os started H enc _ => lifted os started H enc)

/-- The statement: the card. -/
theorem proved : Rows.RationalFormsCardSaid :=
  Claim7.holds_tied_plain_at .later [] [.sentinel, .sentinel, .sentinel] true (true, "6003cb482821eb16e1d6504dcc244874ac476d80e3713968a63d6e034ac7e777") true
    over (fun _ h => by cases h) (by kernel_rfl) (fun _ h => by cases h) rationalForms_row_tie rfl ⟨rfl, rfl⟩ (by kernel_rfl) rfl
    (fun f fn hf hfn => by
      obtain rfl : f = 3 := Option.some.inj ((show Tryz.prog.funcNamed Rows.rationalFormsRow.func = some 3 by kernel_rfl).symm.trans hf) |>.symm
      obtain rfl : fn = Tryz.f3 := (Option.some.inj (Tryz.func3.symm.trans hfn)).symm
      exact ⟨by kernel_rfl, fun j t ht => by
        rw [Tryz.params3] at ht
        have hm : t ∈ [27, 27, 2] := by simpa using Array.mem_of_getElem? ht
        have hall : ([27, 27, 2].all fun u => !Tryz.prog.wantsStandIn u) = true := by kernel_rfl
        exact (show Tryz.prog.wantsStandIn t = false by simpa using List.all_eq_true.1 hall t hm)⟩)
    (by kernel_rfl)
#print axioms proved
end Go.Proofs.YtfdgglddldlpjaaGreatDoor.rationalForms
