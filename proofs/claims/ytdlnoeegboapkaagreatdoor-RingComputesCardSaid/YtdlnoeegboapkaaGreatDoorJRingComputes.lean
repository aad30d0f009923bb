/-
  Facts of the row of RingComputes that only the program decides.
-/
import Derived.Test.YtdlnoeegboapkaaGreatDoorRows
import Derived.ProofKit
import Derived.WalkKit
import Derived.JoinedOf
namespace Go.Proofs.YtdlnoeegboapkaaGreatDoor.ringComputes

theorem closedF : joinedFacts Tryz.pinned.checked.prog 6 Tryz.f6 Rows.ringComputesSpec Rows.ringComputesRow = true := by kernel_rfl
end Go.Proofs.YtdlnoeegboapkaaGreatDoor.ringComputes
