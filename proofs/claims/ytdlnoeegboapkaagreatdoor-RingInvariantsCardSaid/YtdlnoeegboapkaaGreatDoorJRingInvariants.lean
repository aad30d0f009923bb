/-
  Facts of the row of RingInvariants that only the program decides.
-/
import Derived.Test.YtdlnoeegboapkaaGreatDoorRows
import Derived.ProofKit
import Derived.WalkKit
import Derived.JoinedOf
namespace Go.Proofs.YtdlnoeegboapkaaGreatDoor.ringInvariants

theorem closedF : joinedFacts Tryz.pinned.checked.prog 9 Tryz.f9 Rows.ringInvariantsSpec Rows.ringInvariantsRow = true := by kernel_rfl
end Go.Proofs.YtdlnoeegboapkaaGreatDoor.ringInvariants
