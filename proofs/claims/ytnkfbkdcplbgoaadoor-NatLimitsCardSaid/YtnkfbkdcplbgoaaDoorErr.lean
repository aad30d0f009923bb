/-
  errors.Is at a sentinel of errors.New's make: of nil, and of an error of package api (after the kit's worked example 'sentry').
-/
import Derived.Test.YtnkfbkdcplbgoaaDoorProg
import Derived.WalkKit
import Derived.Lib.Hide
import Derived.LaidEql
import Derived.Stop.Asserts
import Derived.RowKitTokens
namespace Go.Proofs.YtnkfbkdcplbgoaaDoor
open Go.RowKit Go.Extern.Stop Go.Stop Go.Extern

theorem Tryd.isTypeOf (v : Value) (w : World) : (Extern.ReflectliteType.typeOf #[.iface 176 v]).run Tryd.prog w = .ok (.iface 134 (.agg #[.pointer (some ⟨11, 176, none⟩)])) w := by kernel_rfl
/-- The model's entry for (rtype).Comparable. -/
def cmpE : Array Value → Sem Value := Extern.ReflectliteType.method fun t => do Rtype.noPackHeld "Comparable" t; pure (.bool (← typeInfo t).comparable)
theorem Tryd.isComparable (w : World) : (cmpE #[.agg #[.pointer (some ⟨11, 176, none⟩)]]).run Tryd.prog w = .ok (.bool true) w := by kernel_rfl
theorem Tryd.isMethodComparable (v : Value) (w : World) : (Go.method 309 134 v "Comparable").run Tryd.prog w = .ok (135, v) w := by kernel_rfl
theorem Tryd.isComp : (Tryd.prog.info? 176).map (·.comparable) = some true := by kernel_rfl
theorem Tryd.isSize : (Tryd.prog.info? 197).map (·.size) = some 1 := by kernel_rfl
theorem Tryd.noIsE (v : Value) (xT : TypeId) (w : World) : (Instr.typeAssert (.iface 176 v) xT 136 true).run Tryd.prog w = .ok (.tuple #[.nilIface, .bool false]) w := run_typeAssert_lacksB Tryd.underlying136 (by kernel_rfl) (by kernel_rfl) v xT w
theorem Tryd.noUnwrapE (v : Value) (xT : TypeId) (w : World) : (Instr.typeAssert (.iface 176 v) xT 139 true).run Tryd.prog w = .ok (.tuple #[.nilIface, .bool false]) w := run_typeAssert_lacksB Tryd.underlying139 (by kernel_rfl) (by kernel_rfl) v xT w
theorem Tryd.noUnwrapsE (v : Value) (xT : TypeId) (w : World) : (Instr.typeAssert (.iface 176 v) xT 141 true).run Tryd.prog w = .ok (.tuple #[.nilIface, .bool false]) w := run_typeAssert_lacksB Tryd.underlying141 (by kernel_rfl) (by kernel_rfl) v xT w
theorem Tryd.noIsW (v : Value) (xT : TypeId) (w : World) : (Instr.typeAssert (.iface 114 v) xT 136 true).run Tryd.prog w = .ok (.tuple #[.nilIface, .bool false]) w := run_typeAssert_lacksB Tryd.underlying136 (by kernel_rfl) (by kernel_rfl) v xT w
theorem Tryd.hasUnwrapW (v : Value) (xT : TypeId) (w : World) : (Instr.typeAssert (.iface 114 v) xT 139 true).run Tryd.prog w = .ok (.tuple #[.iface 114 v, .bool true]) w := run_typeAssert_hasB Tryd.underlying139 (by kernel_rfl) v xT w
theorem Tryd.methodUnwrap (v : Value) (w : World) : (Go.method 309 114 v "Unwrap").run Tryd.prog w = .ok (132, v) w := by kernel_rfl

/-- errors.Is(nil, x). -/
theorem is_nil (b : Addr) (w : World) :
    Calls Tryd.prog 12 #[.nilIface, .iface 176 (.pointer (some b))] w fun e w' => e = .returned (.bool false) ∧ w = w' := by
  have hn := run_eql_iface_nil_left (P := Tryd.prog) w 176 (.pointer (some b)) Tryd.underlying26
  go_enter Tryd.func12, Tryd.ntmps12
  go_wp2
  go_ret
  exact ⟨rfl, rfl⟩

/-- errors.Is(e, x), e an error of package api whose kind is x itself. -/
theorem is_err_same (pb : Nat) (b : Addr) (w : World) (h1 : w.cell? ⟨pb, 0, none⟩ = some (.iface 176 (.pointer (some b)))) :
    Calls Tryd.prog 12 #[.iface 114 (.pointer (some ⟨pb, 0, none⟩)), .iface 176 (.pointer (some b))] w fun e w' => e = .returned (.bool true) ∧ w = w' := by
  obtain ⟨i, hi, hcmp⟩ := Option.map_eq_some_iff.1 Tryd.isComp
  obtain ⟨j, hj, hjs⟩ := Option.map_eq_some_iff.1 Tryd.isSize
  have h8 := @run_callFunc_extern Tryd.prog 44 _ Extern.ReflectliteType.typeOf Tryd.func44 (by kernel_rfl) (by kernel_rfl) (by kernel_rfl) (by kernel_rfl)
  have h32 := @run_callFunc_extern Tryd.prog 135 _ cmpE Tryd.func135 (by kernel_rfl) (by kernel_rfl) (by kernel_rfl) (by kernel_rfl)
  have tT := Tryd.isTypeOf
  have cT := Tryd.isComparable
  have mR := Tryd.isMethodComparable
  have nE := Tryd.noIsE
  have uE := Tryd.noUnwrapE
  have vE := Tryd.noUnwrapsE
  have nW := Tryd.noIsW
  have uW := Tryd.hasUnwrapW
  have mU := Tryd.methodUnwrap
  have heq := run_eql_iface_ptr_same (P := Tryd.prog) w b Tryd.underlying26 Tryd.underlying176 hi hcmp hj
  have hty := run_eql_iface_types (P := Tryd.prog) 114 176 (.pointer (some ⟨pb, 0, none⟩)) (.pointer (some b)) Tryd.underlying26 (by decide) w
  go_enter Tryd.func12, Tryd.ntmps12
  go_wp2
  refine wp_loop_rounds 2 ?_
  rw [rounds_succ]
  go_wp2
  rw [rounds_succ]
  go_wp2
  go_ret
  exact ⟨rfl, rfl⟩

/-- errors.Is(e, x), e an error of package api whose kind is another sentinel. -/
theorem is_err_other (pb : Nat) (b a : Addr) (ca cb : Array Value) (ta tb : TypeId) (w : World) (h1 : w.cell? ⟨pb, 0, none⟩ = some (.iface 176 (.pointer (some a)))) (hne : a ≠ b) (ha : w.heap[a.block]? = some (.cells ca ta (0, 0))) (hb : w.heap[b.block]? = some (.cells cb tb (0, 0))) :
    Calls Tryd.prog 12 #[.iface 114 (.pointer (some ⟨pb, 0, none⟩)), .iface 176 (.pointer (some b))] w fun e w' => e = .returned (.bool false) ∧ w = w' := by
  obtain ⟨i, hi, hcmp⟩ := Option.map_eq_some_iff.1 Tryd.isComp
  obtain ⟨j, hj, hjs⟩ := Option.map_eq_some_iff.1 Tryd.isSize
  have h8 := @run_callFunc_extern Tryd.prog 44 _ Extern.ReflectliteType.typeOf Tryd.func44 (by kernel_rfl) (by kernel_rfl) (by kernel_rfl) (by kernel_rfl)
  have h32 := @run_callFunc_extern Tryd.prog 135 _ cmpE Tryd.func135 (by kernel_rfl) (by kernel_rfl) (by kernel_rfl) (by kernel_rfl)
  have tT := Tryd.isTypeOf
  have cT := Tryd.isComparable
  have mR := Tryd.isMethodComparable
  have nE := Tryd.noIsE
  have uE := Tryd.noUnwrapE
  have vE := Tryd.noUnwrapsE
  have nW := Tryd.noIsW
  have uW := Tryd.hasUnwrapW
  have mU := Tryd.methodUnwrap
  have heq := run_eql_iface_ptr_other (P := Tryd.prog) w Tryd.underlying26 Tryd.underlying176 hi hcmp hj (by rw [hjs]; decide) hne ha hb
  have hty := run_eql_iface_types (P := Tryd.prog) 114 176 (.pointer (some ⟨pb, 0, none⟩)) (.pointer (some b)) Tryd.underlying26 (by decide) w
  go_enter Tryd.func12, Tryd.ntmps12
  go_wp2
  refine wp_loop_rounds 2 ?_
  rw [rounds_succ]
  go_wp2
  rw [rounds_succ]
  go_wp2
  go_ret
  exact ⟨rfl, rfl⟩
end Go.Proofs.YtnkfbkdcplbgoaaDoor
