/-
  Texts of this claim, joined: Rg10.
-/
import Derived.Test.YtdlnoeegboapkaaGreatDoorHKA
import Derived.Test.YtdlnoeegboapkaaGreatDoorHKI
namespace Go.Proofs.YtdlnoeegboapkaaGreatDoor
open Go.RowKit
set_option linter.unusedVariables false
set_option maxHeartbeats 40000000
set_option maxRecDepth 100000
set_option synthInstance.maxHeartbeats 1000000
set_option synthInstance.maxSize 100000
section
theorem cell_fz0 {W w0 : World} {g : Nat} {V : List FV} [h : At W g (rowF V) w0] (hk : 0 < V.length) : W.cell? ⟨g, 0, none⟩ = some (.int .i64 (fv V 0).nx) := by
  have := at_f h hk (j := 0) (by decide)
  rw [Nat.zero_mul, Nat.zero_add] at this; exact this
theorem cell_fz1 {W w0 : World} {g : Nat} {V : List FV} [h : At W g (rowF V) w0] (hk : 0 < V.length) : W.cell? ⟨g, 1, none⟩ = some (.int .i64 (fv V 0).dx) := by
  have := at_f h hk (j := 1) (by decide)
  rw [Nat.zero_mul, Nat.zero_add] at this; exact this
theorem cell_fz2 {W w0 : World} {g : Nat} {V : List FV} [h : At W g (rowF V) w0] (hk : 0 < V.length) : W.cell? ⟨g, 2, none⟩ = some (.pointer (fv V 0).px) := by
  have := at_f h hk (j := 2) (by decide)
  rw [Nat.zero_mul, Nat.zero_add] at this; exact this
theorem cell_fz3 {W w0 : World} {g : Nat} {V : List FV} [h : At W g (rowF V) w0] (hk : 0 < V.length) : W.cell? ⟨g, 3, none⟩ = some (.int .i64 (fv V 0).ny) := by
  have := at_f h hk (j := 3) (by decide)
  rw [Nat.zero_mul, Nat.zero_add] at this; exact this
theorem cell_fz4 {W w0 : World} {g : Nat} {V : List FV} [h : At W g (rowF V) w0] (hk : 0 < V.length) : W.cell? ⟨g, 4, none⟩ = some (.int .i64 (fv V 0).dy) := by
  have := at_f h hk (j := 4) (by decide)
  rw [Nat.zero_mul, Nat.zero_add] at this; exact this
theorem cell_fz5 {W w0 : World} {g : Nat} {V : List FV} [h : At W g (rowF V) w0] (hk : 0 < V.length) : W.cell? ⟨g, 5, none⟩ = some (.pointer (fv V 0).py) := by
  have := at_f h hk (j := 5) (by decide)
  rw [Nat.zero_mul, Nat.zero_add] at this; exact this
attribute [local go_sem] cell_fz0 cell_fz1 cell_fz2 cell_fz3 cell_fz4 cell_fz5
end
end Go.Proofs.YtdlnoeegboapkaaGreatDoor
