/-
  Facts of the row of TopMapped that only the program decides.
-/
import Derived.Test.YtpnpnlmlamfpmaaGreatDoorRows
import Derived.ProofKit
import Derived.WalkKit
import Derived.JoinedOf
namespace Go.Proofs.YtpnpnlmlamfpmaaGreatDoor.topMapped

theorem closedF : joinedFacts Tryz.pinned.checked.prog 3 Tryz.f3 Rows.topMappedSpec Rows.topMappedRow = true := by kernel_rfl
end Go.Proofs.YtpnpnlmlamfpmaaGreatDoor.topMapped
