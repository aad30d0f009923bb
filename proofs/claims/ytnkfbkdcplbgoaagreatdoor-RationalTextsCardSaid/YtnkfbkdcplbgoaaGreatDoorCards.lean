/-
  DERIVED. GIVEN WITH THE SEED: THE CARDS: each row of YtnkfbkdcplbgoaaGreatDoorRows.lean that lists a variable, with what it lists TIED to the program's text (the seventh form; the later family's looks); each row that meets fmt, with fmt's text TOLD by the authors' own Lean function (tested against real Go, not proved from fmt's source: count such statements apart). THE CARD IS WHAT COUNTS. Prove the row's statement (the work); the ties are given (YtnkfbkdcplbgoaaGreatDoorTie.lean); close each card by the builder's one call (the guide's Derived/Test/ToyasCard.lean, 'card_holds'). Laid BY PROGRAM, IN A SANDBOX (cutbox-door.mjs). By AI agents, Wed Nov 11 2026. No macro, syntax, notation, axiom, sorry.
-/
import Derived.Test.YtnkfbkdcplbgoaaGreatDoorRows
import GoSem.ClaimSeven
namespace Go.Proofs.YtnkfbkdcplbgoaaGreatDoor
namespace Rows

/-- THE TIED CARD OF 'bspregionlaw04.PointTexts'. -/
def pointTextsCard : Claim7 := { stood := { row := pointTextsRow, standIns := [], harness := (true, "bd85cf2c94929c9642a942b2d3114ecf92dd9407dbcef52e2e40184ea6e8cf26"), looks := true }, kinds := [], alts := [], laidByText := true, laidKinds := [.sentinel, .sentinel, .sentinel], laidTests := true, laidLooks := .later }
def PointTextsCardSaid : Prop := Claim7.holds Tryz.pinned (.plain (OpenSpec.ofChange pointTextsSpec)) pointTextsCard

/-- THE TIED CARD OF 'bspregionlaw03.RationalTexts'. -/
def rationalTextsCard : Claim7 := { stood := { row := rationalTextsRow, standIns := [], harness := (true, "bd85cf2c94929c9642a942b2d3114ecf92dd9407dbcef52e2e40184ea6e8cf26"), looks := true }, kinds := [], alts := [], laidByText := true, laidKinds := [.sentinel, .sentinel, .sentinel], laidTests := true, laidLooks := .later }
def RationalTextsCardSaid : Prop := Claim7.holds Tryz.pinned (.plain (OpenSpec.ofChange rationalTextsSpec)) rationalTextsCard

/-- THE TIED CARD OF 'bspregionlaw03.RationalUnique'. -/
def rationalUniqueCard : Claim7 := { stood := { row := rationalUniqueRow, standIns := [], harness := (true, "bd85cf2c94929c9642a942b2d3114ecf92dd9407dbcef52e2e40184ea6e8cf26"), looks := true }, kinds := [], alts := [], laidByText := true, laidKinds := [.sentinel, .sentinel, .sentinel], laidTests := true, laidLooks := .later }
def RationalUniqueCardSaid : Prop := Claim7.holds Tryz.pinned (.plain (OpenSpec.ofChange rationalUniqueSpec)) rationalUniqueCard

/-- THE TIED CARD OF 'bspregionlaw03.RationalForms'. -/
def rationalFormsCard : Claim7 := { stood := { row := rationalFormsRow, standIns := [], harness := (true, "bd85cf2c94929c9642a942b2d3114ecf92dd9407dbcef52e2e40184ea6e8cf26"), looks := true }, kinds := [], alts := [], laidByText := true, laidKinds := [.sentinel, .sentinel, .sentinel], laidTests := true, laidLooks := .later }
def RationalFormsCardSaid : Prop := Claim7.holds Tryz.pinned (.plain (OpenSpec.ofChange rationalFormsSpec)) rationalFormsCard

/-- THE TIED CARD OF 'bspregionlaw03.RationalFloors'. -/
def rationalFloorsCard : Claim7 := { stood := { row := rationalFloorsRow, standIns := [], harness := (true, "bd85cf2c94929c9642a942b2d3114ecf92dd9407dbcef52e2e40184ea6e8cf26"), looks := true }, kinds := [], alts := [], laidByText := true, laidKinds := [.sentinel, .sentinel, .sentinel], laidTests := true, laidLooks := .later }
def RationalFloorsCardSaid : Prop := Claim7.holds Tryz.pinned (.plain (OpenSpec.ofChange rationalFloorsSpec)) rationalFloorsCard

/-- THE TIED CARD OF 'bspregionlaw03.RationalField'. -/
def rationalFieldCard : Claim7 := { stood := { row := rationalFieldRow, standIns := [], harness := (true, "bd85cf2c94929c9642a942b2d3114ecf92dd9407dbcef52e2e40184ea6e8cf26"), looks := true }, kinds := [], alts := [], laidByText := true, laidKinds := [.sentinel, .sentinel, .sentinel], laidTests := true, laidLooks := .later }
def RationalFieldCardSaid : Prop := Claim7.holds Tryz.pinned (.plain (OpenSpec.ofChange rationalFieldSpec)) rationalFieldCard

/-- THE TIED CARD OF 'bspregionlaw03.RationalComputes'. -/
def rationalComputesCard : Claim7 := { stood := { row := rationalComputesRow, standIns := [], harness := (true, "bd85cf2c94929c9642a942b2d3114ecf92dd9407dbcef52e2e40184ea6e8cf26"), looks := true }, kinds := [], alts := [], laidByText := true, laidKinds := [.sentinel, .sentinel, .sentinel], laidTests := true, laidLooks := .later }
def RationalComputesCardSaid : Prop := Claim7.holds Tryz.pinned (.plain (OpenSpec.ofChange rationalComputesSpec)) rationalComputesCard

/-- THE SECOND FORM's CARD OF 'bspregionlaw04.PointTexts'. -/
def pointTextsUptoCard : Claim7 := { stood := { row := pointTextsUptoRow, standIns := [], harness := (true, "bd85cf2c94929c9642a942b2d3114ecf92dd9407dbcef52e2e40184ea6e8cf26"), looks := true }, kinds := [], alts := [], laidByText := true, laidKinds := [.sentinel, .sentinel, .sentinel], laidTests := true, laidLooks := .later }
def PointTextsUptoCardSaid : Prop := Claim7.holds Tryz.pinned (.plain (OpenSpec.upto pointTextsSpec)) pointTextsUptoCard

/-- THE SECOND FORM's CARD OF 'bspregionlaw03.RationalTexts'. -/
def rationalTextsUptoCard : Claim7 := { stood := { row := rationalTextsUptoRow, standIns := [], harness := (true, "bd85cf2c94929c9642a942b2d3114ecf92dd9407dbcef52e2e40184ea6e8cf26"), looks := true }, kinds := [], alts := [], laidByText := true, laidKinds := [.sentinel, .sentinel, .sentinel], laidTests := true, laidLooks := .later }
def RationalTextsUptoCardSaid : Prop := Claim7.holds Tryz.pinned (.plain (OpenSpec.upto rationalTextsSpec)) rationalTextsUptoCard

/-- THE SECOND FORM's CARD OF 'bspregionlaw03.RationalUnique'. -/
def rationalUniqueUptoCard : Claim7 := { stood := { row := rationalUniqueUptoRow, standIns := [], harness := (true, "bd85cf2c94929c9642a942b2d3114ecf92dd9407dbcef52e2e40184ea6e8cf26"), looks := true }, kinds := [], alts := [], laidByText := true, laidKinds := [.sentinel, .sentinel, .sentinel], laidTests := true, laidLooks := .later }
def RationalUniqueUptoCardSaid : Prop := Claim7.holds Tryz.pinned (.plain (OpenSpec.upto rationalUniqueSpec)) rationalUniqueUptoCard

/-- THE SECOND FORM's CARD OF 'bspregionlaw03.RationalForms'. -/
def rationalFormsUptoCard : Claim7 := { stood := { row := rationalFormsUptoRow, standIns := [], harness := (true, "bd85cf2c94929c9642a942b2d3114ecf92dd9407dbcef52e2e40184ea6e8cf26"), looks := true }, kinds := [], alts := [], laidByText := true, laidKinds := [.sentinel, .sentinel, .sentinel], laidTests := true, laidLooks := .later }
def RationalFormsUptoCardSaid : Prop := Claim7.holds Tryz.pinned (.plain (OpenSpec.upto rationalFormsSpec)) rationalFormsUptoCard

/-- THE SECOND FORM's CARD OF 'bspregionlaw03.RationalFloors'. -/
def rationalFloorsUptoCard : Claim7 := { stood := { row := rationalFloorsUptoRow, standIns := [], harness := (true, "bd85cf2c94929c9642a942b2d3114ecf92dd9407dbcef52e2e40184ea6e8cf26"), looks := true }, kinds := [], alts := [], laidByText := true, laidKinds := [.sentinel, .sentinel, .sentinel], laidTests := true, laidLooks := .later }
def RationalFloorsUptoCardSaid : Prop := Claim7.holds Tryz.pinned (.plain (OpenSpec.upto rationalFloorsSpec)) rationalFloorsUptoCard

/-- THE SECOND FORM's CARD OF 'bspregionlaw03.RationalField'. -/
def rationalFieldUptoCard : Claim7 := { stood := { row := rationalFieldUptoRow, standIns := [], harness := (true, "bd85cf2c94929c9642a942b2d3114ecf92dd9407dbcef52e2e40184ea6e8cf26"), looks := true }, kinds := [], alts := [], laidByText := true, laidKinds := [.sentinel, .sentinel, .sentinel], laidTests := true, laidLooks := .later }
def RationalFieldUptoCardSaid : Prop := Claim7.holds Tryz.pinned (.plain (OpenSpec.upto rationalFieldSpec)) rationalFieldUptoCard

/-- THE SECOND FORM's CARD OF 'bspregionlaw03.RationalComputes'. -/
def rationalComputesUptoCard : Claim7 := { stood := { row := rationalComputesUptoRow, standIns := [], harness := (true, "bd85cf2c94929c9642a942b2d3114ecf92dd9407dbcef52e2e40184ea6e8cf26"), looks := true }, kinds := [], alts := [], laidByText := true, laidKinds := [.sentinel, .sentinel, .sentinel], laidTests := true, laidLooks := .later }
def RationalComputesUptoCardSaid : Prop := Claim7.holds Tryz.pinned (.plain (OpenSpec.upto rationalComputesSpec)) rationalComputesUptoCard
end Rows
end Go.Proofs.YtnkfbkdcplbgoaaGreatDoor
