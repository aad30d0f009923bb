/-
  Facts of the row of RingLimit that only the program decides.
-/
import Derived.Test.YtdlnoeegboapkaaGreatDoorRows
import Derived.ProofKit
import Derived.WalkKit
import Derived.JoinedOf
namespace Go.Proofs.YtdlnoeegboapkaaGreatDoor.ringLimit

theorem closedF : joinedFacts Tryz.pinned.checked.prog 4 Tryz.f4 Rows.ringLimitSpec Rows.ringLimitRow = true := by kernel_rfl
end Go.Proofs.YtdlnoeegboapkaaGreatDoor.ringLimit
