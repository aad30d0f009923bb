/-
  errors.Is at a sentinel of errors.New's make: of nil, and of an error of package api (after the kit's worked example 'sentry').
-/
import Derived.Test.YtlameeijogdckaaDoorProg
import Derived.WalkKit
import Derived.Lib.Hide
import Derived.LaidEql
import Derived.Stop.Asserts
import Derived.RowKitTokens
namespace Go.Proofs.YtlameeijogdckaaDoor
open Go.RowKit Go.Extern.Stop Go.Stop Go.Extern

theorem Tryd.isTypeOf (v : Value) (w : World) : (Extern.ReflectliteType.typeOf #[.iface 94 v]).run Tryd.prog w = .ok (.iface 73 (.agg #[.pointer (some ⟨10, 94, none⟩)])) w := by kernel_rfl
/-- The model's entry for (rtype).Comparable. -/
def cmpE : Array Value → Sem Value := Extern.ReflectliteType.method fun t => do Rtype.noPackHeld "Comparable" t; pure (.bool (← typeInfo t).comparable)
theorem Tryd.isComparable (w : World) : (cmpE #[.agg #[.pointer (some ⟨10, 94, none⟩)]]).run Tryd.prog w = .ok (.bool true) w := by kernel_rfl
theorem Tryd.isMethodComparable (v : Value) (w : World) : (Go.method 227 73 v "Comparable").run Tryd.prog w = .ok (69, v) w := by kernel_rfl
theorem Tryd.isComp : (Tryd.prog.info? 94).map (·.comparable) = some true := by kernel_rfl
theorem Tryd.isSize : (Tryd.prog.info? 115).map (·.size) = some 1 := by kernel_rfl
theorem Tryd.noIsE (v : Value) (xT : TypeId) (w : World) : (Instr.typeAssert (.iface 94 v) xT 85 true).run Tryd.prog w = .ok (.tuple #[.nilIface, .bool false]) w := run_typeAssert_lacksB Tryd.underlying85 (by kernel_rfl) (by kernel_rfl) v xT w
theorem Tryd.noUnwrapE (v : Value) (xT : TypeId) (w : World) : (Instr.typeAssert (.iface 94 v) xT 80 true).run Tryd.prog w = .ok (.tuple #[.nilIface, .bool false]) w := run_typeAssert_lacksB Tryd.underlying80 (by kernel_rfl) (by kernel_rfl) v xT w
theorem Tryd.noUnwrapsE (v : Value) (xT : TypeId) (w : World) : (Instr.typeAssert (.iface 94 v) xT 82 true).run Tryd.prog w = .ok (.tuple #[.nilIface, .bool false]) w := run_typeAssert_lacksB Tryd.underlying82 (by kernel_rfl) (by kernel_rfl) v xT w
theorem Tryd.noIsW (v : Value) (xT : TypeId) (w : World) : (Instr.typeAssert (.iface 40 v) xT 85 true).run Tryd.prog w = .ok (.tuple #[.nilIface, .bool false]) w := run_typeAssert_lacksB Tryd.underlying85 (by kernel_rfl) (by kernel_rfl) v xT w
theorem Tryd.hasUnwrapW (v : Value) (xT : TypeId) (w : World) : (Instr.typeAssert (.iface 40 v) xT 80 true).run Tryd.prog w = .ok (.tuple #[.iface 40 v, .bool true]) w := run_typeAssert_hasB Tryd.underlying80 (by kernel_rfl) v xT w
theorem Tryd.methodUnwrap (v : Value) (w : World) : (Go.method 227 40 v "Unwrap").run Tryd.prog w = .ok (63, v) w := by kernel_rfl

/-- errors.Is(nil, x). -/
theorem is_nil (b : Addr) (w : World) :
    Calls Tryd.prog 18 #[.nilIface, .iface 94 (.pointer (some b))] w fun e w' => e = .returned (.bool false) ∧ w = w' := by
  have hn := run_eql_iface_nil_left (P := Tryd.prog) w 94 (.pointer (some b)) Tryd.underlying25
  go_enter Tryd.func18, Tryd.ntmps18
  go_wp2
  go_ret
  exact ⟨rfl, rfl⟩

/-- errors.Is(e, x), e an error of package api whose kind is x itself. -/
theorem is_err_same (pb : Nat) (b : Addr) (w : World) (h1 : w.cell? ⟨pb, 0, none⟩ = some (.iface 94 (.pointer (some b)))) :
    Calls Tryd.prog 18 #[.iface 40 (.pointer (some ⟨pb, 0, none⟩)), .iface 94 (.pointer (some b))] w fun e w' => e = .returned (.bool true) ∧ w = w' := by
  obtain ⟨i, hi, hcmp⟩ := Option.map_eq_some_iff.1 Tryd.isComp
  obtain ⟨j, hj, hjs⟩ := Option.map_eq_some_iff.1 Tryd.isSize
  have h8 := @run_callFunc_extern Tryd.prog 30 _ Extern.ReflectliteType.typeOf Tryd.func30 (by kernel_rfl) (by kernel_rfl) (by kernel_rfl) (by kernel_rfl)
  have h32 := @run_callFunc_extern Tryd.prog 69 _ cmpE Tryd.func69 (by kernel_rfl) (by kernel_rfl) (by kernel_rfl) (by kernel_rfl)
  have tT := Tryd.isTypeOf
  have cT := Tryd.isComparable
  have mR := Tryd.isMethodComparable
  have nE := Tryd.noIsE
  have uE := Tryd.noUnwrapE
  have vE := Tryd.noUnwrapsE
  have nW := Tryd.noIsW
  have uW := Tryd.hasUnwrapW
  have mU := Tryd.methodUnwrap
  have heq := run_eql_iface_ptr_same (P := Tryd.prog) w b Tryd.underlying25 Tryd.underlying94 hi hcmp hj
  have hty := run_eql_iface_types (P := Tryd.prog) 40 94 (.pointer (some ⟨pb, 0, none⟩)) (.pointer (some b)) Tryd.underlying25 (by decide) w
  go_enter Tryd.func18, Tryd.ntmps18
  go_wp2
  refine wp_loop_rounds 2 ?_
  rw [rounds_succ]
  go_wp2
  rw [rounds_succ]
  go_wp2
  go_ret
  exact ⟨rfl, rfl⟩

/-- errors.Is(e, x), e an error of package api whose kind is another sentinel. -/
theorem is_err_other (pb : Nat) (b a : Addr) (ca cb : Array Value) (ta tb : TypeId) (w : World) (h1 : w.cell? ⟨pb, 0, none⟩ = some (.iface 94 (.pointer (some a)))) (hne : a ≠ b) (ha : w.heap[a.block]? = some (.cells ca ta (0, 0))) (hb : w.heap[b.block]? = some (.cells cb tb (0, 0))) :
    Calls Tryd.prog 18 #[.iface 40 (.pointer (some ⟨pb, 0, none⟩)), .iface 94 (.pointer (some b))] w fun e w' => e = .returned (.bool false) ∧ w = w' := by
  obtain ⟨i, hi, hcmp⟩ := Option.map_eq_some_iff.1 Tryd.isComp
  obtain ⟨j, hj, hjs⟩ := Option.map_eq_some_iff.1 Tryd.isSize
  have h8 := @run_callFunc_extern Tryd.prog 30 _ Extern.ReflectliteType.typeOf Tryd.func30 (by kernel_rfl) (by kernel_rfl) (by kernel_rfl) (by kernel_rfl)
  have h32 := @run_callFunc_extern Tryd.prog 69 _ cmpE Tryd.func69 (by kernel_rfl) (by kernel_rfl) (by kernel_rfl) (by kernel_rfl)
  have tT := Tryd.isTypeOf
  have cT := Tryd.isComparable
  have mR := Tryd.isMethodComparable
  have nE := Tryd.noIsE
  have uE := Tryd.noUnwrapE
  have vE := Tryd.noUnwrapsE
  have nW := Tryd.noIsW
  have uW := Tryd.hasUnwrapW
  have mU := Tryd.methodUnwrap
  have heq := run_eql_iface_ptr_other (P := Tryd.prog) w Tryd.underlying25 Tryd.underlying94 hi hcmp hj (by rw [hjs]; decide) hne ha hb
  have hty := run_eql_iface_types (P := Tryd.prog) 40 94 (.pointer (some ⟨pb, 0, none⟩)) (.pointer (some b)) Tryd.underlying25 (by decide) w
  go_enter Tryd.func18, Tryd.ntmps18
  go_wp2
  refine wp_loop_rounds 2 ?_
  rw [rounds_succ]
  go_wp2
  rw [rounds_succ]
  go_wp2
  go_ret
  exact ⟨rfl, rfl⟩
end Go.Proofs.YtlameeijogdckaaDoor
