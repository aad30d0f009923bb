/-
  DERIVED. GIVEN WITH THE SEED: THE CARDS: each row of YtdlnoeegboapkaaGreatDoorRows.lean that lists a variable, with what it lists TIED to the program's text (the seventh form; the later family's looks); each row that meets fmt, with fmt's text TOLD by the authors' own Lean function (tested against real Go, not proved from fmt's source: count such statements apart). THE CARD IS WHAT COUNTS. Prove the row's statement (the work); the ties are given (YtdlnoeegboapkaaGreatDoorTie.lean); close each card by the builder's one call (the guide's Derived/Test/ToyasCard.lean, 'card_holds'). Laid BY PROGRAM, IN A SANDBOX (cutbox-door.mjs). By AI agents, Wed Nov 11 2026. No macro, syntax, notation, axiom, sorry.
-/
import Derived.Test.YtdlnoeegboapkaaGreatDoorRows
import GoSem.ClaimSeven
namespace Go.Proofs.YtdlnoeegboapkaaGreatDoor
namespace Rows

/-- THE TIED CARD OF 'bspregionlaw04.PointTexts'. -/
def pointTextsCard : Claim7 := { stood := { row := pointTextsRow, standIns := [], harness := (true, "2a2e1ed5c05f3acebbe336a45b281f8133286897e8f08f18730194b4d76ba9a6"), looks := true }, kinds := [], alts := [], laidByText := true, laidKinds := [.sentinel, .sentinel, .sentinel], laidTests := true, laidLooks := .later }
def PointTextsCardSaid : Prop := Claim7.holds Tryz.pinned (.plain (OpenSpec.ofChange pointTextsSpec)) pointTextsCard

/-- THE TIED CARD OF 'bspregionlaw09.RingLimit'. -/
def ringLimitCard : Claim7 := { stood := { row := ringLimitRow, standIns := [], harness := (true, "2a2e1ed5c05f3acebbe336a45b281f8133286897e8f08f18730194b4d76ba9a6"), looks := true }, kinds := [], alts := [], laidByText := true, laidKinds := [.data, .data, .data, .sentinel, .sentinel, .sentinel], laidTests := true, laidLooks := .later }
def RingLimitCardSaid : Prop := Claim7.holds Tryz.pinned (.plain (OpenSpec.ofChange ringLimitSpec)) ringLimitCard

/-- THE TIED CARD OF 'bspregionlaw09.RingOrders'. -/
def ringOrdersCard : Claim7 := { stood := { row := ringOrdersRow, standIns := [], harness := (true, "2a2e1ed5c05f3acebbe336a45b281f8133286897e8f08f18730194b4d76ba9a6"), looks := true }, kinds := [], alts := [], laidByText := true, laidKinds := [.data, .data, .data, .sentinel, .sentinel, .sentinel], laidTests := true, laidLooks := .later }
def RingOrdersCardSaid : Prop := Claim7.holds Tryz.pinned (.plain (OpenSpec.ofChange ringOrdersSpec)) ringOrdersCard

/-- THE TIED CARD OF 'bspregionlaw09.RingComputes'. -/
def ringComputesCard : Claim7 := { stood := { row := ringComputesRow, standIns := [], harness := (true, "2a2e1ed5c05f3acebbe336a45b281f8133286897e8f08f18730194b4d76ba9a6"), looks := true }, kinds := [], alts := [], laidByText := true, laidKinds := [.data, .data, .data, .sentinel, .sentinel, .sentinel], laidTests := true, laidLooks := .later }
def RingComputesCardSaid : Prop := Claim7.holds Tryz.pinned (.plain (OpenSpec.ofChange ringComputesSpec)) ringComputesCard

/-- THE TIED CARD OF 'bspregionlaw09.RingShapes'. -/
def ringShapesCard : Claim7 := { stood := { row := ringShapesRow, standIns := [], harness := (true, "2a2e1ed5c05f3acebbe336a45b281f8133286897e8f08f18730194b4d76ba9a6"), looks := true }, kinds := [], alts := [], laidByText := true, laidKinds := [.data, .data, .data, .sentinel, .sentinel, .sentinel], laidTests := true, laidLooks := .later }
def RingShapesCardSaid : Prop := Claim7.holds Tryz.pinned (.plain (OpenSpec.ofChange ringShapesSpec)) ringShapesCard

/-- THE TIED CARD OF 'bspregionlaw09.RingChecks'. -/
def ringChecksCard : Claim7 := { stood := { row := ringChecksRow, standIns := [], harness := (true, "2a2e1ed5c05f3acebbe336a45b281f8133286897e8f08f18730194b4d76ba9a6"), looks := true }, kinds := [], alts := [], laidByText := true, laidKinds := [.data, .data, .data, .sentinel, .sentinel, .sentinel], laidTests := true, laidLooks := .later }
def RingChecksCardSaid : Prop := Claim7.holds Tryz.pinned (.plain (OpenSpec.ofChange ringChecksSpec)) ringChecksCard

/-- THE TIED CARD OF 'bspregionlaw09.RingInvariants'. -/
def ringInvariantsCard : Claim7 := { stood := { row := ringInvariantsRow, standIns := [], harness := (true, "2a2e1ed5c05f3acebbe336a45b281f8133286897e8f08f18730194b4d76ba9a6"), looks := true }, kinds := [], alts := [], laidByText := true, laidKinds := [.data, .data, .data, .sentinel, .sentinel, .sentinel], laidTests := true, laidLooks := .later }
def RingInvariantsCardSaid : Prop := Claim7.holds Tryz.pinned (.plain (OpenSpec.ofChange ringInvariantsSpec)) ringInvariantsCard

/-- THE SECOND FORM's CARD OF 'bspregionlaw04.PointTexts'. -/
def pointTextsUptoCard : Claim7 := { stood := { row := pointTextsUptoRow, standIns := [], harness := (true, "2a2e1ed5c05f3acebbe336a45b281f8133286897e8f08f18730194b4d76ba9a6"), looks := true }, kinds := [], alts := [], laidByText := true, laidKinds := [.sentinel, .sentinel, .sentinel], laidTests := true, laidLooks := .later }
def PointTextsUptoCardSaid : Prop := Claim7.holds Tryz.pinned (.plain (OpenSpec.upto pointTextsSpec)) pointTextsUptoCard

/-- THE SECOND FORM's CARD OF 'bspregionlaw09.RingLimit'. -/
def ringLimitUptoCard : Claim7 := { stood := { row := ringLimitUptoRow, standIns := [], harness := (true, "2a2e1ed5c05f3acebbe336a45b281f8133286897e8f08f18730194b4d76ba9a6"), looks := true }, kinds := [], alts := [], laidByText := true, laidKinds := [.data, .data, .data, .sentinel, .sentinel, .sentinel], laidTests := true, laidLooks := .later }
def RingLimitUptoCardSaid : Prop := Claim7.holds Tryz.pinned (.plain (OpenSpec.upto ringLimitSpec)) ringLimitUptoCard

/-- THE SECOND FORM's CARD OF 'bspregionlaw09.RingOrders'. -/
def ringOrdersUptoCard : Claim7 := { stood := { row := ringOrdersUptoRow, standIns := [], harness := (true, "2a2e1ed5c05f3acebbe336a45b281f8133286897e8f08f18730194b4d76ba9a6"), looks := true }, kinds := [], alts := [], laidByText := true, laidKinds := [.data, .data, .data, .sentinel, .sentinel, .sentinel], laidTests := true, laidLooks := .later }
def RingOrdersUptoCardSaid : Prop := Claim7.holds Tryz.pinned (.plain (OpenSpec.upto ringOrdersSpec)) ringOrdersUptoCard

/-- THE SECOND FORM's CARD OF 'bspregionlaw09.RingComputes'. -/
def ringComputesUptoCard : Claim7 := { stood := { row := ringComputesUptoRow, standIns := [], harness := (true, "2a2e1ed5c05f3acebbe336a45b281f8133286897e8f08f18730194b4d76ba9a6"), looks := true }, kinds := [], alts := [], laidByText := true, laidKinds := [.data, .data, .data, .sentinel, .sentinel, .sentinel], laidTests := true, laidLooks := .later }
def RingComputesUptoCardSaid : Prop := Claim7.holds Tryz.pinned (.plain (OpenSpec.upto ringComputesSpec)) ringComputesUptoCard

/-- THE SECOND FORM's CARD OF 'bspregionlaw09.RingShapes'. -/
def ringShapesUptoCard : Claim7 := { stood := { row := ringShapesUptoRow, standIns := [], harness := (true, "2a2e1ed5c05f3acebbe336a45b281f8133286897e8f08f18730194b4d76ba9a6"), looks := true }, kinds := [], alts := [], laidByText := true, laidKinds := [.data, .data, .data, .sentinel, .sentinel, .sentinel], laidTests := true, laidLooks := .later }
def RingShapesUptoCardSaid : Prop := Claim7.holds Tryz.pinned (.plain (OpenSpec.upto ringShapesSpec)) ringShapesUptoCard

/-- THE SECOND FORM's CARD OF 'bspregionlaw09.RingChecks'. -/
def ringChecksUptoCard : Claim7 := { stood := { row := ringChecksUptoRow, standIns := [], harness := (true, "2a2e1ed5c05f3acebbe336a45b281f8133286897e8f08f18730194b4d76ba9a6"), looks := true }, kinds := [], alts := [], laidByText := true, laidKinds := [.data, .data, .data, .sentinel, .sentinel, .sentinel], laidTests := true, laidLooks := .later }
def RingChecksUptoCardSaid : Prop := Claim7.holds Tryz.pinned (.plain (OpenSpec.upto ringChecksSpec)) ringChecksUptoCard

/-- THE SECOND FORM's CARD OF 'bspregionlaw09.RingInvariants'. -/
def ringInvariantsUptoCard : Claim7 := { stood := { row := ringInvariantsUptoRow, standIns := [], harness := (true, "2a2e1ed5c05f3acebbe336a45b281f8133286897e8f08f18730194b4d76ba9a6"), looks := true }, kinds := [], alts := [], laidByText := true, laidKinds := [.data, .data, .data, .sentinel, .sentinel, .sentinel], laidTests := true, laidLooks := .later }
def RingInvariantsUptoCardSaid : Prop := Claim7.holds Tryz.pinned (.plain (OpenSpec.upto ringInvariantsSpec)) ringInvariantsUptoCard
end Rows
end Go.Proofs.YtdlnoeegboapkaaGreatDoor
