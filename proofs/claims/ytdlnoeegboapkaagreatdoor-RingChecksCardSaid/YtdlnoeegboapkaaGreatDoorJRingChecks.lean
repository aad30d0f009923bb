/-
  Facts of the row of RingChecks that only the program decides.
-/
import Derived.Test.YtdlnoeegboapkaaGreatDoorRows
import Derived.ProofKit
import Derived.WalkKit
import Derived.JoinedOf
namespace Go.Proofs.YtdlnoeegboapkaaGreatDoor.ringChecks

theorem closedF : joinedFacts Tryz.pinned.checked.prog 8 Tryz.f8 Rows.ringChecksSpec Rows.ringChecksRow = true := by kernel_rfl
end Go.Proofs.YtdlnoeegboapkaaGreatDoor.ringChecks
