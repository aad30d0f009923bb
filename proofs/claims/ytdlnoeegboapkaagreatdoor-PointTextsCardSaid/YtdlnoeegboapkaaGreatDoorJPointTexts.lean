/-
  Facts of the row of PointTexts that only the program decides.
-/
import Derived.Test.YtdlnoeegboapkaaGreatDoorRows
import Derived.ProofKit
import Derived.WalkKit
import Derived.JoinedOf
namespace Go.Proofs.YtdlnoeegboapkaaGreatDoor.pointTexts

theorem closedF : joinedFacts Tryz.pinned.checked.prog 3 Tryz.f3 Rows.pointTextsSpec Rows.pointTextsRow = true := by kernel_rfl
end Go.Proofs.YtdlnoeegboapkaaGreatDoor.pointTexts
