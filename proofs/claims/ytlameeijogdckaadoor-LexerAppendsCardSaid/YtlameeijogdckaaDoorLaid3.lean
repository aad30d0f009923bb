/-
  What the initialisers lay, for the lexer's rows: the sentinels and the variable of package errors.
-/
import Derived.Test.YtlameeijogdckaaDoorLk
import Derived.Test.YtlameeijogdckaaDoorRows
import Derived.Test.YtlameeijogdckaaDoorTie
import Derived.LaidMore
import Derived.Stop.LaidTwo
import Derived.LaidSub
import Derived.LaidHandle
import Derived.MakeChecks
import Derived.Stop.Joined
namespace Go.Proofs.YtlameeijogdckaaDoor
open Go.RowKit

theorem Tryd.gS : Tryd.prog.globalNamed "bspregion/api.ErrSyntax" = some 0 := by kernel_rfl
theorem Tryd.gL : Tryd.prog.globalNamed "bspregion/api.ErrLimit" = some 1 := by kernel_rfl
theorem Tryd.gSt : (Tryd.prog.globals[0]?).map (·.type) = some 25 := by kernel_rfl
theorem Tryd.gLt : (Tryd.prog.globals[1]?).map (·.type) = some 25 := by kernel_rfl
theorem Tryd.cellsEs : Tryd.prog.cellsOf 115 = 1 := by kernel_rfl
theorem Tryd.cellsStr : Tryd.prog.cellsOf 9 = 1 := by kernel_rfl
theorem Tryd.star : "*" ++ "errors.errorString" = "*errors.errorString" := by decide
theorem Tryd.rowEs (u : TypeId) (h : Tryd.prog.typeName? 3 u = some "*errors.errorString") : u = 94 :=
  typeName_ptr_named (nm := "errors.errorString") (by rw [Tryd.star]; kernel_rfl) (by kernel_rfl) (by decide) u (by rw [Tryd.star]; exact h)
theorem Tryd.et : Tryd.prog.globalNamed "errors.errorType" = some 2 := by kernel_rfl
theorem Tryd.rt : (Tryd.prog.cutTypes.find? (·.1 == "internal/reflectlite.rtype")).map (·.2) = some 73 := by kernel_rfl
theorem Tryd.oneRow : ((List.range Tryd.prog.types.size).filter fun t => Tryd.prog.rowNamed t [101, 114, 114, 111, 114]) = [25] := by kernel_rfl
theorem snt_of_var {W : World} {n : String} {g : Nat} {a : Addr} (hg : Tryd.prog.globalNamed n = some g) (hv : W.var? Tryd.prog n = some #[.iface 94 (.pointer (some a))]) (hr : ∃ c t, W.heap[a.block]? = some (.cells c t (0, 0))) : Snt W g a W :=
  Snt.mk1 (by simpa using World.var?_cell hg hv 0) hr
/-- The lists of the lexer's rows. -/
def laidL : List (String × DataW Unit) := [("errors.errorType", Rows.laid_errors_errorType), ("bspregion/api.ErrSyntax", Rows.laid_bspregion_api_ErrSyntax), ("bspregion/api.ErrLimit", Rows.laid_bspregion_api_ErrLimit)]
def laidT : List (String × DataW Unit) := [("errors.errorType", Rows.laid_errors_errorType), ("bspregion/api.ErrInvalid", Rows.laid_bspregion_api_ErrInvalid), ("bspregion/api.ErrSyntax", Rows.laid_bspregion_api_ErrSyntax), ("bspregion/api.ErrRing", Rows.laid_bspregion_api_ErrRing), ("bspregion/api.ErrName", Rows.laid_bspregion_api_ErrName), ("bspregion/api.ErrTwice", Rows.laid_bspregion_api_ErrTwice), ("bspregion/api.ErrBudget", Rows.laid_bspregion_api_ErrBudget), ("bspregion/api.ErrLimit", Rows.laid_bspregion_api_ErrLimit), ("bspregion/api.ErrRange", Rows.laid_bspregion_api_ErrRange)]
theorem sentsL {W : World} (hL : laidMetH Tryd.prog laidL W) : ∃ aS aL, Snt W 0 aS W ∧ Snt W 1 aL W ∧ aL ≠ aS ∧ Gc W 2 eTy W := by
  have h' : laidMet Tryd.prog [("bspregion/api.ErrSyntax", Rows.laid_bspregion_api_ErrSyntax), ("bspregion/api.ErrLimit", Rows.laid_bspregion_api_ErrLimit)] W ∧ handlesMet Tryd.prog [("errors.errorType", Rows.laid_errors_errorType)] W := laidMetH_iff.1 hL
  obtain ⟨a0, a1, s0, s1, c0, c1, t0, t1, hv0, hv1, _, _, _, _, _, _, hne, hb0, hb1⟩ := laid_sentinels2 h'.1 Tryd.gS Tryd.gSt Tryd.gL Tryd.gLt Tryd.underlying25 Tryd.rowEs Tryd.underlying94 Tryd.underlying115 rfl rfl Tryd.underlying9 Tryd.cellsEs Tryd.cellsStr
  refine ⟨a0, a1, snt_of_var Tryd.gS hv0 ⟨_, _, hb0⟩, snt_of_var Tryd.gL hv1 ⟨_, _, hb1⟩, fun e => hne e.symm, ?_⟩
  obtain ⟨name, u, ty, e1, e2, e3, e4, e5⟩ := h'.2 _ (List.mem_singleton.2 rfl)
  have en : name = [101, 114, 114, 111, 114] := (Option.some.inj e1).symm
  subst en
  obtain rfl := Option.some.inj (Tryd.rt.symm.trans e2)
  have hm : ty ∈ (List.range Tryd.prog.types.size).filter fun t => Tryd.prog.rowNamed t [101, 114, 114, 111, 114] := List.mem_filter.2 ⟨List.mem_range.2 e3, e4⟩
  rw [Tryd.oneRow] at hm
  obtain rfl := List.mem_singleton.1 hm
  have hh : typeHandle Tryd.prog 25 = .pointer (some ⟨10, 25, none⟩) := by kernel_rfl
  rw [hh] at e5
  exact Gc.mk1 (by simpa using World.var?_cell Tryd.et e5 0)
theorem laidL_of_T {W : World} (hL : laidMetH Tryd.prog laidT W) : laidMetH Tryd.prog laidL W := hL.filter (fun x => x.1 == "errors.errorType" || x.1 == "bspregion/api.ErrSyntax" || x.1 == "bspregion/api.ErrLimit")
theorem lexerBytes_walk (a0 : Int) (w : World) (w0 : (Lit.int .u8 a0).wf = true) (hL : laidMetH Tryd.prog laidL w) : Calls Tryd.prog 5 #[.int .u8 a0] w fun e w' => e = .returned (.bool true) ∧ Below w.heap.size w w' := by
  obtain ⟨aS, aL, h1, h2, _, h3⟩ := sentsL hL
  have hr : 0 ≤ a0 ∧ a0 ≤ 255 := by
    simpa [Lit.wf, IntKind.min, IntKind.max, IntKind.signed, IntKind.bits] using w0
  have e : a0 = (((UInt8.ofNat a0.toNat).toNat : Nat) : Int) := by
    rw [UInt8.toNat_ofNat']; omega
  rw [e]
  exact lexerBytes_walk' (w0 := w)
end Go.Proofs.YtlameeijogdckaaDoor
