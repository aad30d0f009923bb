/-
  What the condition of the rows of layers 1 and 2 gives the walks: the two sentinels, each in its variable, and that they are different.
-/
import Derived.Test.YtnkfbkdcplbgoaaDoorRows
import Derived.Test.YtnkfbkdcplbgoaaDoorSen
import Derived.LaidMore
import Derived.Stop.LaidTwo
import Derived.Stop.Joined
namespace Go.Proofs.YtnkfbkdcplbgoaaDoor
open Go Go.RowKit

theorem Tryd.gS : Tryd.prog.globalNamed "bspregion/api.ErrSyntax" = some 0 := by kernel_rfl
theorem Tryd.gL : Tryd.prog.globalNamed "bspregion/api.ErrLimit" = some 1 := by kernel_rfl
theorem Tryd.gSt : (Tryd.prog.globals[0]?).map (·.type) = some 26 := by kernel_rfl
theorem Tryd.gLt : (Tryd.prog.globals[1]?).map (·.type) = some 26 := by kernel_rfl
theorem Tryd.cellsEs : Tryd.prog.cellsOf 197 = 1 := by kernel_rfl
theorem Tryd.cellsStr : Tryd.prog.cellsOf 9 = 1 := by kernel_rfl
theorem Tryd.star : "*" ++ "errors.errorString" = "*errors.errorString" := by decide
theorem Tryd.rowEs (u : TypeId) (h : Tryd.prog.typeName? 3 u = some "*errors.errorString") : u = 176 :=
  typeName_ptr_named (nm := "errors.errorString") (by rw [Tryd.star]; kernel_rfl) (by kernel_rfl) (by decide) u (by rw [Tryd.star]; exact h)
theorem snt_of_var {W : World} {n : String} {g : Nat} {a : Addr} (hg : Tryd.prog.globalNamed n = some g) (hv : W.var? Tryd.prog n = some #[.iface 176 (.pointer (some a))]) (hr : ∃ c t, W.heap[a.block]? = some (.cells c t (0, 0))) : Snt W g a W :=
  Snt.mk1 (by simpa using World.var?_cell hg hv 0) hr
/-- The list of the rows of layers 1 and 2. -/
def laid2 : List (String × DataW Unit) := [("bspregion/api.ErrSyntax", Rows.laid_bspregion_api_ErrSyntax), ("bspregion/api.ErrLimit", Rows.laid_bspregion_api_ErrLimit)]
theorem sents2 {W : World} (hL : laidMetH Tryd.prog laid2 W) : ∃ a0 a1, Snt W 0 a0 W ∧ Snt W 1 a1 W ∧ a1 ≠ a0 := by
  rw [MakeChecks.laidMetH_plain _ _ _ (by kernel_rfl)] at hL
  obtain ⟨a0, a1, s0, s1, c0, c1, t0, t1, hv0, hv1, _, _, _, _, _, _, hne, hb0, hb1⟩ := laid_sentinels2 hL Tryd.gS Tryd.gSt Tryd.gL Tryd.gLt Tryd.underlying26 Tryd.rowEs Tryd.underlying176 Tryd.underlying197 rfl rfl Tryd.underlying9 Tryd.cellsEs Tryd.cellsStr
  exact ⟨a0, a1, snt_of_var Tryd.gS hv0 ⟨_, _, hb0⟩, snt_of_var Tryd.gL hv1 ⟨_, _, hb1⟩, fun e => hne e.symm⟩
end Go.Proofs.YtnkfbkdcplbgoaaDoor
