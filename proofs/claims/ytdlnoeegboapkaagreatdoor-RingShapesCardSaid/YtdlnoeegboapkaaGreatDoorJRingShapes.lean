/-
  Facts of the row of RingShapes that only the program decides.
-/
import Derived.Test.YtdlnoeegboapkaaGreatDoorRows
import Derived.ProofKit
import Derived.WalkKit
import Derived.JoinedOf
namespace Go.Proofs.YtdlnoeegboapkaaGreatDoor.ringShapes

theorem closedF : joinedFacts Tryz.pinned.checked.prog 7 Tryz.f7 Rows.ringShapesSpec Rows.ringShapesRow = true := by kernel_rfl
end Go.Proofs.YtdlnoeegboapkaaGreatDoor.ringShapes
