/-
  DERIVED. GIVEN WITH THE SEED: THE CARDS: each row of YtpnpnlmlamfpmaaGreatDoorRows.lean that lists a variable, with what it lists TIED to the program's text (the seventh form; the later family's looks); each row that meets fmt, with fmt's text TOLD by the authors' own Lean function (tested against real Go, not proved from fmt's source: count such statements apart). THE CARD IS WHAT COUNTS. Prove the row's statement (the work); the ties are given (YtpnpnlmlamfpmaaGreatDoorTie.lean); close each card by the builder's one call (the guide's Derived/Test/ToyasCard.lean, 'card_holds'). Laid BY PROGRAM, IN A SANDBOX (cutbox-door.mjs). By AI agents, Wed Nov 11 2026. No macro, syntax, notation, axiom, sorry.
-/
import Derived.Test.YtpnpnlmlamfpmaaGreatDoorRows
import GoSem.ClaimSeven
namespace Go.Proofs.YtpnpnlmlamfpmaaGreatDoor
namespace Rows

/-- THE TIED CARD OF 'bspregiontop.TopMapped'. -/
def topMappedCard : Claim7 := { stood := { row := topMappedRow, standIns := [], harness := (true, "b50a96f66552f2875bf9a099d65d486aff6e96bee10685567ccffdac209f78fb"), looks := true }, kinds := [], alts := [], laidByText := true, laidKinds := [.data, .data, .data, .sentinel, .sentinel, .sentinel, .sentinel, .sentinel, .sentinel], laidTests := true, laidLooks := .later }
def TopMappedCardSaid : Prop := Claim7.holds Tryz.pinned (.plain (OpenSpec.ofChange topMappedSpec)) topMappedCard

/-- THE SECOND FORM's CARD OF 'bspregiontop.TopMapped'. -/
def topMappedUptoCard : Claim7 := { stood := { row := topMappedUptoRow, standIns := [], harness := (true, "b50a96f66552f2875bf9a099d65d486aff6e96bee10685567ccffdac209f78fb"), looks := true }, kinds := [], alts := [], laidByText := true, laidKinds := [.data, .data, .data, .sentinel, .sentinel, .sentinel, .sentinel, .sentinel, .sentinel], laidTests := true, laidLooks := .later }
def TopMappedUptoCardSaid : Prop := Claim7.holds Tryz.pinned (.plain (OpenSpec.upto topMappedSpec)) topMappedUptoCard
end Rows
end Go.Proofs.YtpnpnlmlamfpmaaGreatDoor
