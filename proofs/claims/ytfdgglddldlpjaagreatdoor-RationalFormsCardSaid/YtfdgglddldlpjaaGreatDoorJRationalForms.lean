/-
  Facts of the row of RationalForms that only the program decides.
-/
import Derived.Test.YtfdgglddldlpjaaGreatDoorRows
import Derived.ProofKit
import Derived.WalkKit
import Derived.JoinedOf
namespace Go.Proofs.YtfdgglddldlpjaaGreatDoor.rationalForms

theorem closedF : joinedFacts Tryz.pinned.checked.prog 3 Tryz.f3 Rows.rationalFormsSpec Rows.rationalFormsRow = true := by kernel_rfl
end Go.Proofs.YtfdgglddldlpjaaGreatDoor.rationalForms
