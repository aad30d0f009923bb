/-
  DERIVED. GIVEN WITH THE SEED: THE PROGRAM's TIES (one call each: nine closed facts by the kernel) AND EACH ROW's TIE, after the 31st guide's Derived/Test/Toyas{Tie, Card}.lean. No idea stands in it: it is a product of the set-up. Laid BY PROGRAM, IN A SANDBOX (cutbox-door.mjs). By AI agents, Wed Nov 11 2026. No macro, syntax, notation, axiom, sorry.
-/
import Derived.Test.YtlameeijogdckaaDoorRows
import Derived.LaidByTextLater
import Derived.SevenTiedAt
import Derived.LaidSub
import Derived.LaidOnce
namespace Go.Proofs.YtlameeijogdckaaDoor
open Go
set_option maxRecDepth 100000
theorem seatTie1 : Tryd.prog.laidByTextLater [("errors.errorType", Rows.laid_errors_errorType), ("bspregion/api.ErrInvalid", Rows.laid_bspregion_api_ErrInvalid), ("bspregion/api.ErrSyntax", Rows.laid_bspregion_api_ErrSyntax), ("bspregion/api.ErrRing", Rows.laid_bspregion_api_ErrRing), ("bspregion/api.ErrName", Rows.laid_bspregion_api_ErrName), ("bspregion/api.ErrTwice", Rows.laid_bspregion_api_ErrTwice), ("bspregion/api.ErrBudget", Rows.laid_bspregion_api_ErrBudget), ("bspregion/api.ErrLimit", Rows.laid_bspregion_api_ErrLimit), ("bspregion/api.ErrRange", Rows.laid_bspregion_api_ErrRange)] [.handle, .sentinel, .sentinel, .sentinel, .sentinel, .sentinel, .sentinel, .sentinel, .sentinel] true :=
  Program.laidByTextLater_by_one 168 8 2 (by kernel_rfl) (by kernel_rfl) (by kernel_rfl) (by kernel_rfl) (by kernel_rfl) (by kernel_rfl) (fun _ _ => by kernel_rfl)
theorem noOwnUnsafe : Tryd.pinned.checked.prog.headLifts.contains "ownunsafe" = false := by kernel_rfl
theorem tie : Tryd.prog.laidByTextLater [("errors.errorType", Rows.laid_errors_errorType), ("bspregion/api.ErrInvalid", Rows.laid_bspregion_api_ErrInvalid), ("bspregion/api.ErrSyntax", Rows.laid_bspregion_api_ErrSyntax), ("bspregion/api.ErrRing", Rows.laid_bspregion_api_ErrRing), ("bspregion/api.ErrName", Rows.laid_bspregion_api_ErrName), ("bspregion/api.ErrTwice", Rows.laid_bspregion_api_ErrTwice), ("bspregion/api.ErrBudget", Rows.laid_bspregion_api_ErrBudget), ("bspregion/api.ErrLimit", Rows.laid_bspregion_api_ErrLimit), ("bspregion/api.ErrRange", Rows.laid_bspregion_api_ErrRange)] [.handle, .sentinel, .sentinel, .sentinel, .sentinel, .sentinel, .sentinel, .sentinel, .sentinel] true :=
  Program.laidByTextLater.sub seatTie1 ["errors.errorType", "bspregion/api.ErrInvalid", "bspregion/api.ErrSyntax", "bspregion/api.ErrRing", "bspregion/api.ErrName", "bspregion/api.ErrTwice", "bspregion/api.ErrBudget", "bspregion/api.ErrLimit", "bspregion/api.ErrRange"] (by kernel_rfl) (by kernel_rfl)
theorem lexerTokens_row_tie : Rows.lexerTokensRow.laidByTextAt .later Tryd.pinned [.handle, .sentinel, .sentinel, .sentinel, .sentinel, .sentinel, .sentinel, .sentinel, .sentinel] true :=
  OpenClaim.laidByTextAt_later rfl rfl tie noOwnUnsafe
theorem tie2 : Tryd.prog.laidByTextLater [("errors.errorType", Rows.laid_errors_errorType), ("bspregion/api.ErrSyntax", Rows.laid_bspregion_api_ErrSyntax), ("bspregion/api.ErrLimit", Rows.laid_bspregion_api_ErrLimit)] [.handle, .sentinel, .sentinel] true :=
  Program.laidByTextLater.sub seatTie1 ["errors.errorType", "bspregion/api.ErrSyntax", "bspregion/api.ErrLimit"] (by kernel_rfl) (by kernel_rfl)
theorem lexerJoins_row_tie : Rows.lexerJoinsRow.laidByTextAt .later Tryd.pinned [.handle, .sentinel, .sentinel] true :=
  OpenClaim.laidByTextAt_later rfl rfl tie2 noOwnUnsafe
theorem lexerBytes_row_tie : Rows.lexerBytesRow.laidByTextAt .later Tryd.pinned [.handle, .sentinel, .sentinel] true :=
  OpenClaim.laidByTextAt_later rfl rfl tie2 noOwnUnsafe
theorem lexerAppends_row_tie : Rows.lexerAppendsRow.laidByTextAt .later Tryd.pinned [.handle, .sentinel, .sentinel] true :=
  OpenClaim.laidByTextAt_later rfl rfl tie2 noOwnUnsafe
theorem lexerTokensUpto_row_tie : Rows.lexerTokensUptoRow.laidByTextAt .later Tryd.pinned [.handle, .sentinel, .sentinel, .sentinel, .sentinel, .sentinel, .sentinel, .sentinel, .sentinel] true :=
  OpenClaim.laidByTextAt_later rfl rfl tie noOwnUnsafe
theorem lexerJoinsUpto_row_tie : Rows.lexerJoinsUptoRow.laidByTextAt .later Tryd.pinned [.handle, .sentinel, .sentinel] true :=
  OpenClaim.laidByTextAt_later rfl rfl tie2 noOwnUnsafe
theorem lexerBytesUpto_row_tie : Rows.lexerBytesUptoRow.laidByTextAt .later Tryd.pinned [.handle, .sentinel, .sentinel] true :=
  OpenClaim.laidByTextAt_later rfl rfl tie2 noOwnUnsafe
theorem lexerAppendsUpto_row_tie : Rows.lexerAppendsUptoRow.laidByTextAt .later Tryd.pinned [.handle, .sentinel, .sentinel] true :=
  OpenClaim.laidByTextAt_later rfl rfl tie2 noOwnUnsafe
end Go.Proofs.YtlameeijogdckaaDoor
