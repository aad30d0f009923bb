/-
  Facts of the row of RingOrders that only the program decides.
-/
import Derived.Test.YtdlnoeegboapkaaGreatDoorRows
import Derived.ProofKit
import Derived.WalkKit
import Derived.JoinedOf
namespace Go.Proofs.YtdlnoeegboapkaaGreatDoor.ringOrders

theorem closedF : joinedFacts Tryz.pinned.checked.prog 5 Tryz.f5 Rows.ringOrdersSpec Rows.ringOrdersRow = true := by kernel_rfl
end Go.Proofs.YtdlnoeegboapkaaGreatDoor.ringOrders
