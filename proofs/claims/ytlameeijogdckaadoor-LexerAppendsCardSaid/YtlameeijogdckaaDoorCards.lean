/-
  DERIVED. GIVEN WITH THE SEED: THE CARDS: each row of YtlameeijogdckaaDoorRows.lean that lists a variable, with what it lists TIED to the program's text (the seventh form; the later family's looks); each row that meets fmt, with fmt's text TOLD by the authors' own Lean function (tested against real Go, not proved from fmt's source: count such statements apart). THE CARD IS WHAT COUNTS. Prove the row's statement (the work); the ties are given (YtlameeijogdckaaDoorTie.lean); close each card by the builder's one call (the guide's Derived/Test/ToyasCard.lean, 'card_holds'). Laid BY PROGRAM, IN A SANDBOX (cutbox-door.mjs). By AI agents, Wed Nov 11 2026. No macro, syntax, notation, axiom, sorry.
-/
import Derived.Test.YtlameeijogdckaaDoorRows
import GoSem.ClaimSeven
namespace Go.Proofs.YtlameeijogdckaaDoor
namespace Rows

/-- THE TIED CARD OF 'bspregionlaw11.LexerTokens'. -/
def lexerTokensCard : Claim7 := { stood := { row := lexerTokensRow, standIns := [], harness := (true, "de2356cb334fe36cb23b08dd63347d42864c74c771365a864f8d6b2bf9c0d4ee"), looks := true }, kinds := [], alts := [], laidByText := true, laidKinds := [.handle, .sentinel, .sentinel, .sentinel, .sentinel, .sentinel, .sentinel, .sentinel, .sentinel], laidTests := true, laidLooks := .later }
def LexerTokensCardSaid : Prop := Claim7.holds Tryd.pinned (.plain (OpenSpec.ofChange lexerTokensSpec)) lexerTokensCard

/-- THE TIED CARD OF 'bspregionlaw11.LexerJoins'. -/
def lexerJoinsCard : Claim7 := { stood := { row := lexerJoinsRow, standIns := [], harness := (true, "de2356cb334fe36cb23b08dd63347d42864c74c771365a864f8d6b2bf9c0d4ee"), looks := true }, kinds := [], alts := [], laidByText := true, laidKinds := [.handle, .sentinel, .sentinel], laidTests := true, laidLooks := .later }
def LexerJoinsCardSaid : Prop := Claim7.holds Tryd.pinned (.plain (OpenSpec.ofChange lexerJoinsSpec)) lexerJoinsCard

/-- THE TIED CARD OF 'bspregionlaw11.LexerBytes'. -/
def lexerBytesCard : Claim7 := { stood := { row := lexerBytesRow, standIns := [], harness := (true, "de2356cb334fe36cb23b08dd63347d42864c74c771365a864f8d6b2bf9c0d4ee"), looks := true }, kinds := [], alts := [], laidByText := true, laidKinds := [.handle, .sentinel, .sentinel], laidTests := true, laidLooks := .later }
def LexerBytesCardSaid : Prop := Claim7.holds Tryd.pinned (.plain (OpenSpec.ofChange lexerBytesSpec)) lexerBytesCard

/-- THE TIED CARD OF 'bspregionlaw11.LexerAppends'. -/
def lexerAppendsCard : Claim7 := { stood := { row := lexerAppendsRow, standIns := [], harness := (true, "de2356cb334fe36cb23b08dd63347d42864c74c771365a864f8d6b2bf9c0d4ee"), looks := true }, kinds := [], alts := [], laidByText := true, laidKinds := [.handle, .sentinel, .sentinel], laidTests := true, laidLooks := .later }
def LexerAppendsCardSaid : Prop := Claim7.holds Tryd.pinned (.plain (OpenSpec.ofChange lexerAppendsSpec)) lexerAppendsCard

/-- THE SECOND FORM's CARD OF 'bspregionlaw11.LexerTokens'. -/
def lexerTokensUptoCard : Claim7 := { stood := { row := lexerTokensUptoRow, standIns := [], harness := (true, "de2356cb334fe36cb23b08dd63347d42864c74c771365a864f8d6b2bf9c0d4ee"), looks := true }, kinds := [], alts := [], laidByText := true, laidKinds := [.handle, .sentinel, .sentinel, .sentinel, .sentinel, .sentinel, .sentinel, .sentinel, .sentinel], laidTests := true, laidLooks := .later }
def LexerTokensUptoCardSaid : Prop := Claim7.holds Tryd.pinned (.plain (OpenSpec.upto lexerTokensSpec)) lexerTokensUptoCard

/-- THE SECOND FORM's CARD OF 'bspregionlaw11.LexerJoins'. -/
def lexerJoinsUptoCard : Claim7 := { stood := { row := lexerJoinsUptoRow, standIns := [], harness := (true, "de2356cb334fe36cb23b08dd63347d42864c74c771365a864f8d6b2bf9c0d4ee"), looks := true }, kinds := [], alts := [], laidByText := true, laidKinds := [.handle, .sentinel, .sentinel], laidTests := true, laidLooks := .later }
def LexerJoinsUptoCardSaid : Prop := Claim7.holds Tryd.pinned (.plain (OpenSpec.upto lexerJoinsSpec)) lexerJoinsUptoCard

/-- THE SECOND FORM's CARD OF 'bspregionlaw11.LexerBytes'. -/
def lexerBytesUptoCard : Claim7 := { stood := { row := lexerBytesUptoRow, standIns := [], harness := (true, "de2356cb334fe36cb23b08dd63347d42864c74c771365a864f8d6b2bf9c0d4ee"), looks := true }, kinds := [], alts := [], laidByText := true, laidKinds := [.handle, .sentinel, .sentinel], laidTests := true, laidLooks := .later }
def LexerBytesUptoCardSaid : Prop := Claim7.holds Tryd.pinned (.plain (OpenSpec.upto lexerBytesSpec)) lexerBytesUptoCard

/-- THE SECOND FORM's CARD OF 'bspregionlaw11.LexerAppends'. -/
def lexerAppendsUptoCard : Claim7 := { stood := { row := lexerAppendsUptoRow, standIns := [], harness := (true, "de2356cb334fe36cb23b08dd63347d42864c74c771365a864f8d6b2bf9c0d4ee"), looks := true }, kinds := [], alts := [], laidByText := true, laidKinds := [.handle, .sentinel, .sentinel], laidTests := true, laidLooks := .later }
def LexerAppendsUptoCardSaid : Prop := Claim7.holds Tryd.pinned (.plain (OpenSpec.upto lexerAppendsSpec)) lexerAppendsUptoCard
end Rows
end Go.Proofs.YtlameeijogdckaaDoor
