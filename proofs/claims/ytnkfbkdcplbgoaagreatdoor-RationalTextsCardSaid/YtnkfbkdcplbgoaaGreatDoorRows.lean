/-
  NARROWER THAN 'FOR EVERY INPUT', by the rows' own cells (each row's printed sentence says how): PointTexts: laid · RationalTexts: laid · RationalUnique: laid · RationalForms: laid · RationalFloors: laid · RationalField: laid · RationalComputes: laid.
  DERIVED. THE GIVEN ROWS OF THIS SEAT. 7 by the template 'for every input the law returns true; each argument reads behind the call as it read before'; 0 by the template 'total and deterministic' (their statements: YtnkfbkdcplbgoaaGreatDoorTotals.lean).
  GIVEN WITH THE SEED: the statements are not yours to turn. If you find one false, say at which input.
  Laid BY PROGRAM, IN A SANDBOX (cutbox-rows.mjs): the forced cells as the released guide's own fill.sh prints them over the translation 198fb502ddd44d6f… (all of the seat's roots in one cut). By AI agents, Wed Nov 11 2026. No macro, syntax, notation, axiom, sorry.
-/
import Derived.Test.YtnkfbkdcplbgoaaGreatDoorChecked
import GoSem.Claim
import GoSem.ClaimJoined
import GoSem.ClaimMapViews
import Derived.JoinedTies
import Derived.KernelRfl
namespace Go.Proofs.YtnkfbkdcplbgoaaGreatDoor
/- THE CELL 'sum', in the pinned program and in every row, IS THE sha256 OF THE DUMP (.gsa) THAT YtnkfbkdcplbgoaaGreatDoorProg.lean LOADS. Nothing in Lean hashes anything: it is a label: what it is worth is what the hold of that sum in a sandbox is worth. -/
noncomputable def Tryz.pinned : Pinned := { name := "ytnkfbkdcplbgoaagreatdoor", sum := "198fb502ddd44d6f9d0d11cf674503a8f2c40eb6a40925f0f19f28ef38105d1f", checked := Tryz.checked }
namespace Rows
def none {H : Type} : Left H := { results := [], args := [] }

/- WHAT THE LISTED PACKAGE-LEVEL VARIABLES READ AS WHEN THE CALL BEGINS. Each datum BY PROGRAM (the guide's laid-datum.mjs) off the statement by which the dump's own 'gosem.cut.vars' lays the variable. In a bare row this is a premise. The card (YtnkfbkdcplbgoaaGreatDoorCards.lean) ties it to the program's text. -/
def laid_bspregion_api_ErrSyntax {H : Type} : DataW H := .iface "*errors.errorString" (.ptr (.agg [.lit (.string [115, 121, 110, 116, 97, 120, 32, 101, 114, 114, 111, 114])]))
def laid_bspregion_api_ErrLimit {H : Type} : DataW H := .iface "*errors.errorString" (.ptr (.agg [.lit (.string [108, 105, 109, 105, 116, 32, 101, 120, 99, 101, 101, 100, 101, 100])]))
def laid_bspregion_api_ErrRange {H : Type} : DataW H := .iface "*errors.errorString" (.ptr (.agg [.lit (.string [111, 117, 116, 32, 111, 102, 32, 114, 97, 110, 103, 101])]))

/-- 'bspregionlaw04.PointTexts': WHATEVER THE INPUT: true; the input reads as it did. -/
def pointTextsSpec : ChangeSpec := { name := "pointTexts", fn := fun _ => fun
  | [d1, d2] => { results := [.lit (.bool true)], args := [d1, d2] }
  | _ => none }
def pointTextsRow : OpenClaim := { program := "ytnkfbkdcplbgoaagreatdoor", sum := "198fb502ddd44d6f9d0d11cf674503a8f2c40eb6a40925f0f19f28ef38105d1f", func := "bspregion/bspregionlaw04.PointTexts", spec := "pointTexts", inPlace := ["internal/bytealg.IndexByteString", "internal/bytealg.IndexString", "internal/reflectlite.TypeOf"], unfollowed := true, recurses := true, named := ["bspregion/api.ErrSyntax", "bspregion/api.ErrRange", "math/bits.overflowError", "internal/bytealg.MaxLen", "bspregion/api.ErrLimit"], apart := false, laid := [("bspregion/api.ErrSyntax", laid_bspregion_api_ErrSyntax), ("bspregion/api.ErrLimit", laid_bspregion_api_ErrLimit), ("bspregion/api.ErrRange", laid_bspregion_api_ErrRange)] }
def PointTextsSaid : Prop := pointTextsRow.holds Tryz.pinned (OpenSpec.ofChange pointTextsSpec)

/-- ITS FALSE NEIGHBOUR: 'it returns false'. Refute it at one input. -/
def pointTextsWrong : ChangeSpec := { name := "pointTexts", fn := fun _ => fun
  | [d1, d2] => { results := [.lit (.bool false)], args := [d1, d2] }
  | _ => none }
def PointTextsWrongFalsely : Prop := pointTextsRow.holds Tryz.pinned (OpenSpec.ofChange pointTextsWrong)

/-- 'bspregionlaw03.RationalTexts': WHATEVER THE INPUT: true; the input reads as it did. -/
def rationalTextsSpec : ChangeSpec := { name := "rationalTexts", fn := fun _ => fun
  | [d1, d2] => { results := [.lit (.bool true)], args := [d1, d2] }
  | _ => none }
def rationalTextsRow : OpenClaim := { program := "ytnkfbkdcplbgoaagreatdoor", sum := "198fb502ddd44d6f9d0d11cf674503a8f2c40eb6a40925f0f19f28ef38105d1f", func := "bspregion/bspregionlaw03.RationalTexts", spec := "rationalTexts", inPlace := ["internal/bytealg.IndexByteString", "internal/bytealg.IndexString", "internal/reflectlite.TypeOf"], unfollowed := true, recurses := true, named := ["bspregion/api.ErrSyntax", "bspregion/api.ErrRange", "bspregion/api.ErrLimit", "internal/bytealg.MaxLen", "math/bits.overflowError"], apart := false, laid := [("bspregion/api.ErrSyntax", laid_bspregion_api_ErrSyntax), ("bspregion/api.ErrLimit", laid_bspregion_api_ErrLimit), ("bspregion/api.ErrRange", laid_bspregion_api_ErrRange)] }
def RationalTextsSaid : Prop := rationalTextsRow.holds Tryz.pinned (OpenSpec.ofChange rationalTextsSpec)

/-- ITS FALSE NEIGHBOUR: 'it returns false'. Refute it at one input. -/
def rationalTextsWrong : ChangeSpec := { name := "rationalTexts", fn := fun _ => fun
  | [d1, d2] => { results := [.lit (.bool false)], args := [d1, d2] }
  | _ => none }
def RationalTextsWrongFalsely : Prop := rationalTextsRow.holds Tryz.pinned (OpenSpec.ofChange rationalTextsWrong)

/-- 'bspregionlaw03.RationalUnique': WHATEVER THE INPUT: true; the input reads as it did. -/
def rationalUniqueSpec : ChangeSpec := { name := "rationalUnique", fn := fun _ => fun
  | [d] => { results := [.lit (.bool true)], args := [d] }
  | _ => none }
def rationalUniqueRow : OpenClaim := { program := "ytnkfbkdcplbgoaagreatdoor", sum := "198fb502ddd44d6f9d0d11cf674503a8f2c40eb6a40925f0f19f28ef38105d1f", func := "bspregion/bspregionlaw03.RationalUnique", spec := "rationalUnique", inPlace := ["internal/bytealg.IndexByteString", "internal/bytealg.IndexString", "internal/reflectlite.TypeOf"], unfollowed := true, recurses := true, named := ["math/bits.overflowError", "bspregion/api.ErrRange", "bspregion/api.ErrSyntax", "bspregion/api.ErrLimit", "internal/bytealg.MaxLen"], apart := false, laid := [("bspregion/api.ErrSyntax", laid_bspregion_api_ErrSyntax), ("bspregion/api.ErrLimit", laid_bspregion_api_ErrLimit), ("bspregion/api.ErrRange", laid_bspregion_api_ErrRange)] }
def RationalUniqueSaid : Prop := rationalUniqueRow.holds Tryz.pinned (OpenSpec.ofChange rationalUniqueSpec)

/-- ITS FALSE NEIGHBOUR: 'it returns false'. Refute it at one input. -/
def rationalUniqueWrong : ChangeSpec := { name := "rationalUnique", fn := fun _ => fun
  | [d] => { results := [.lit (.bool false)], args := [d] }
  | _ => none }
def RationalUniqueWrongFalsely : Prop := rationalUniqueRow.holds Tryz.pinned (OpenSpec.ofChange rationalUniqueWrong)

/-- 'bspregionlaw03.RationalForms': WHATEVER THE INPUT: true; the input reads as it did. -/
def rationalFormsSpec : ChangeSpec := { name := "rationalForms", fn := fun _ => fun
  | [d1, d2, d3] => { results := [.lit (.bool true)], args := [d1, d2, d3] }
  | _ => none }
def rationalFormsRow : OpenClaim := { program := "ytnkfbkdcplbgoaagreatdoor", sum := "198fb502ddd44d6f9d0d11cf674503a8f2c40eb6a40925f0f19f28ef38105d1f", func := "bspregion/bspregionlaw03.RationalForms", spec := "rationalForms", inPlace := ["internal/bytealg.IndexByteString", "internal/bytealg.IndexString", "internal/reflectlite.TypeOf"], unfollowed := true, recurses := true, named := ["bspregion/api.ErrRange", "bspregion/api.ErrSyntax", "bspregion/api.ErrLimit", "internal/bytealg.MaxLen", "math/bits.overflowError"], apart := false, laid := [("bspregion/api.ErrSyntax", laid_bspregion_api_ErrSyntax), ("bspregion/api.ErrLimit", laid_bspregion_api_ErrLimit), ("bspregion/api.ErrRange", laid_bspregion_api_ErrRange)] }
def RationalFormsSaid : Prop := rationalFormsRow.holds Tryz.pinned (OpenSpec.ofChange rationalFormsSpec)

/-- ITS FALSE NEIGHBOUR: 'it returns false'. Refute it at one input. -/
def rationalFormsWrong : ChangeSpec := { name := "rationalForms", fn := fun _ => fun
  | [d1, d2, d3] => { results := [.lit (.bool false)], args := [d1, d2, d3] }
  | _ => none }
def RationalFormsWrongFalsely : Prop := rationalFormsRow.holds Tryz.pinned (OpenSpec.ofChange rationalFormsWrong)

/-- 'bspregionlaw03.RationalFloors': WHATEVER THE INPUT: true; the input reads as it did. -/
def rationalFloorsSpec : ChangeSpec := { name := "rationalFloors", fn := fun _ => fun
  | [d] => { results := [.lit (.bool true)], args := [d] }
  | _ => none }
def rationalFloorsRow : OpenClaim := { program := "ytnkfbkdcplbgoaagreatdoor", sum := "198fb502ddd44d6f9d0d11cf674503a8f2c40eb6a40925f0f19f28ef38105d1f", func := "bspregion/bspregionlaw03.RationalFloors", spec := "rationalFloors", inPlace := ["internal/bytealg.IndexByteString", "internal/bytealg.IndexString", "internal/reflectlite.TypeOf"], unfollowed := true, recurses := true, named := ["math/bits.overflowError", "bspregion/api.ErrRange", "bspregion/api.ErrSyntax", "bspregion/api.ErrLimit", "internal/bytealg.MaxLen"], apart := false, laid := [("bspregion/api.ErrSyntax", laid_bspregion_api_ErrSyntax), ("bspregion/api.ErrLimit", laid_bspregion_api_ErrLimit), ("bspregion/api.ErrRange", laid_bspregion_api_ErrRange)] }
def RationalFloorsSaid : Prop := rationalFloorsRow.holds Tryz.pinned (OpenSpec.ofChange rationalFloorsSpec)

/-- ITS FALSE NEIGHBOUR: 'it returns false'. Refute it at one input. -/
def rationalFloorsWrong : ChangeSpec := { name := "rationalFloors", fn := fun _ => fun
  | [d] => { results := [.lit (.bool false)], args := [d] }
  | _ => none }
def RationalFloorsWrongFalsely : Prop := rationalFloorsRow.holds Tryz.pinned (OpenSpec.ofChange rationalFloorsWrong)

/-- 'bspregionlaw03.RationalField': WHATEVER THE INPUT: true; the input reads as it did. -/
def rationalFieldSpec : ChangeSpec := { name := "rationalField", fn := fun _ => fun
  | [d] => { results := [.lit (.bool true)], args := [d] }
  | _ => none }
def rationalFieldRow : OpenClaim := { program := "ytnkfbkdcplbgoaagreatdoor", sum := "198fb502ddd44d6f9d0d11cf674503a8f2c40eb6a40925f0f19f28ef38105d1f", func := "bspregion/bspregionlaw03.RationalField", spec := "rationalField", inPlace := ["internal/bytealg.IndexByteString", "internal/bytealg.IndexString", "internal/reflectlite.TypeOf"], unfollowed := true, recurses := true, named := ["math/bits.overflowError", "bspregion/api.ErrRange", "bspregion/api.ErrSyntax", "bspregion/api.ErrLimit", "internal/bytealg.MaxLen"], apart := false, laid := [("bspregion/api.ErrSyntax", laid_bspregion_api_ErrSyntax), ("bspregion/api.ErrLimit", laid_bspregion_api_ErrLimit), ("bspregion/api.ErrRange", laid_bspregion_api_ErrRange)] }
def RationalFieldSaid : Prop := rationalFieldRow.holds Tryz.pinned (OpenSpec.ofChange rationalFieldSpec)

/-- ITS FALSE NEIGHBOUR: 'it returns false'. Refute it at one input. -/
def rationalFieldWrong : ChangeSpec := { name := "rationalField", fn := fun _ => fun
  | [d] => { results := [.lit (.bool false)], args := [d] }
  | _ => none }
def RationalFieldWrongFalsely : Prop := rationalFieldRow.holds Tryz.pinned (OpenSpec.ofChange rationalFieldWrong)

/-- 'bspregionlaw03.RationalComputes': WHATEVER THE INPUT: true; the input reads as it did. -/
def rationalComputesSpec : ChangeSpec := { name := "rationalComputes", fn := fun _ => fun
  | [d] => { results := [.lit (.bool true)], args := [d] }
  | _ => none }
def rationalComputesRow : OpenClaim := { program := "ytnkfbkdcplbgoaagreatdoor", sum := "198fb502ddd44d6f9d0d11cf674503a8f2c40eb6a40925f0f19f28ef38105d1f", func := "bspregion/bspregionlaw03.RationalComputes", spec := "rationalComputes", inPlace := ["internal/bytealg.IndexByteString", "internal/bytealg.IndexString", "internal/reflectlite.TypeOf"], unfollowed := true, recurses := true, named := ["math/bits.overflowError", "bspregion/api.ErrRange", "bspregion/api.ErrSyntax", "bspregion/api.ErrLimit", "internal/bytealg.MaxLen"], apart := false, laid := [("bspregion/api.ErrSyntax", laid_bspregion_api_ErrSyntax), ("bspregion/api.ErrLimit", laid_bspregion_api_ErrLimit), ("bspregion/api.ErrRange", laid_bspregion_api_ErrRange)] }
def RationalComputesSaid : Prop := rationalComputesRow.holds Tryz.pinned (OpenSpec.ofChange rationalComputesSpec)

/-- ITS FALSE NEIGHBOUR: 'it returns false'. Refute it at one input. -/
def rationalComputesWrong : ChangeSpec := { name := "rationalComputes", fn := fun _ => fun
  | [d] => { results := [.lit (.bool false)], args := [d] }
  | _ => none }
def RationalComputesWrongFalsely : Prop := rationalComputesRow.holds Tryz.pinned (OpenSpec.ofChange rationalComputesWrong)

/- THE SECOND FORM. 'bulk': how many values and letters a reading holds, each counted each time it is reached (what is shared counts as often as it is met; a slice's spare places count too). A statement '..UptoSaid' is the law's where the arguments, and the package variables that the reading takes, are together of bulk at most 1048576: NARROWER than '..Said'. Prove '..Said' where nothing that the law and all that it calls make is longer than what came in: it says more and counts as full. Else prove '..UptoSaid'. A law counts once. -/
mutual
def uptoBulk {H : Type} : DataW H → Nat
  | .lit (.string bytes) => bytes.length + 1
  | .lit _ => 1
  | .nil => 1
  | .ptr d => uptoBulk d + 1
  | .slice elems spare => uptoBulkAll elems + uptoBulkAll spare + 1
  | .agg parts => uptoBulkAll parts + 1
  | .iface _ d => uptoBulk d + 1
  | .map entries => uptoBulkEntries entries + 1
  | .held _ => 1
def uptoBulkAll {H : Type} : List (DataW H) → Nat
  | [] => 0
  | d :: r => uptoBulk d + uptoBulkAll r
def uptoBulkEntries {H : Type} : List (Lit × DataW H) → Nat
  | [] => 0
  | x :: r => uptoBulkEntry x + uptoBulkEntries r
def uptoBulkEntry {H : Type} : Lit × DataW H → Nat
  | (.string bytes, d) => bytes.length + uptoBulk d + 1
  | (_, d) => uptoBulk d + 1
 end
def uptoSmall : (H : Type) → List (DataW H) → Bool := fun _ ds => decide (uptoBulkAll ds ≤ 1048576)
def OpenSpec.upto (s : _root_.Go.ChangeSpec) : _root_.Go.OpenSpec := { _root_.Go.OpenSpec.ofChange s with cond := some uptoSmall }

/-- 'bspregionlaw04.PointTexts', WHERE WHAT IT READS IS OF BULK AT MOST 1048576: true; the input reads as it did. -/
def pointTextsUptoRow : OpenClaim := { program := "ytnkfbkdcplbgoaagreatdoor", sum := "198fb502ddd44d6f9d0d11cf674503a8f2c40eb6a40925f0f19f28ef38105d1f", func := "bspregion/bspregionlaw04.PointTexts", spec := "pointTexts", inPlace := ["internal/bytealg.IndexByteString", "internal/bytealg.IndexString", "internal/reflectlite.TypeOf"], unfollowed := true, recurses := true, named := ["bspregion/api.ErrSyntax", "bspregion/api.ErrRange", "math/bits.overflowError", "internal/bytealg.MaxLen", "bspregion/api.ErrLimit"], apart := false, laid := [("bspregion/api.ErrSyntax", laid_bspregion_api_ErrSyntax), ("bspregion/api.ErrLimit", laid_bspregion_api_ErrLimit), ("bspregion/api.ErrRange", laid_bspregion_api_ErrRange)], narrowed := true }
def PointTextsUptoSaid : Prop := pointTextsUptoRow.holds Tryz.pinned (OpenSpec.upto pointTextsSpec)

/-- 'bspregionlaw03.RationalTexts', WHERE WHAT IT READS IS OF BULK AT MOST 1048576: true; the input reads as it did. -/
def rationalTextsUptoRow : OpenClaim := { program := "ytnkfbkdcplbgoaagreatdoor", sum := "198fb502ddd44d6f9d0d11cf674503a8f2c40eb6a40925f0f19f28ef38105d1f", func := "bspregion/bspregionlaw03.RationalTexts", spec := "rationalTexts", inPlace := ["internal/bytealg.IndexByteString", "internal/bytealg.IndexString", "internal/reflectlite.TypeOf"], unfollowed := true, recurses := true, named := ["bspregion/api.ErrSyntax", "bspregion/api.ErrRange", "bspregion/api.ErrLimit", "internal/bytealg.MaxLen", "math/bits.overflowError"], apart := false, laid := [("bspregion/api.ErrSyntax", laid_bspregion_api_ErrSyntax), ("bspregion/api.ErrLimit", laid_bspregion_api_ErrLimit), ("bspregion/api.ErrRange", laid_bspregion_api_ErrRange)], narrowed := true }
def RationalTextsUptoSaid : Prop := rationalTextsUptoRow.holds Tryz.pinned (OpenSpec.upto rationalTextsSpec)

/-- 'bspregionlaw03.RationalUnique', WHERE WHAT IT READS IS OF BULK AT MOST 1048576: true; the input reads as it did. -/
def rationalUniqueUptoRow : OpenClaim := { program := "ytnkfbkdcplbgoaagreatdoor", sum := "198fb502ddd44d6f9d0d11cf674503a8f2c40eb6a40925f0f19f28ef38105d1f", func := "bspregion/bspregionlaw03.RationalUnique", spec := "rationalUnique", inPlace := ["internal/bytealg.IndexByteString", "internal/bytealg.IndexString", "internal/reflectlite.TypeOf"], unfollowed := true, recurses := true, named := ["math/bits.overflowError", "bspregion/api.ErrRange", "bspregion/api.ErrSyntax", "bspregion/api.ErrLimit", "internal/bytealg.MaxLen"], apart := false, laid := [("bspregion/api.ErrSyntax", laid_bspregion_api_ErrSyntax), ("bspregion/api.ErrLimit", laid_bspregion_api_ErrLimit), ("bspregion/api.ErrRange", laid_bspregion_api_ErrRange)], narrowed := true }
def RationalUniqueUptoSaid : Prop := rationalUniqueUptoRow.holds Tryz.pinned (OpenSpec.upto rationalUniqueSpec)

/-- 'bspregionlaw03.RationalForms', WHERE WHAT IT READS IS OF BULK AT MOST 1048576: true; the input reads as it did. -/
def rationalFormsUptoRow : OpenClaim := { program := "ytnkfbkdcplbgoaagreatdoor", sum := "198fb502ddd44d6f9d0d11cf674503a8f2c40eb6a40925f0f19f28ef38105d1f", func := "bspregion/bspregionlaw03.RationalForms", spec := "rationalForms", inPlace := ["internal/bytealg.IndexByteString", "internal/bytealg.IndexString", "internal/reflectlite.TypeOf"], unfollowed := true, recurses := true, named := ["bspregion/api.ErrRange", "bspregion/api.ErrSyntax", "bspregion/api.ErrLimit", "internal/bytealg.MaxLen", "math/bits.overflowError"], apart := false, laid := [("bspregion/api.ErrSyntax", laid_bspregion_api_ErrSyntax), ("bspregion/api.ErrLimit", laid_bspregion_api_ErrLimit), ("bspregion/api.ErrRange", laid_bspregion_api_ErrRange)], narrowed := true }
def RationalFormsUptoSaid : Prop := rationalFormsUptoRow.holds Tryz.pinned (OpenSpec.upto rationalFormsSpec)

/-- 'bspregionlaw03.RationalFloors', WHERE WHAT IT READS IS OF BULK AT MOST 1048576: true; the input reads as it did. -/
def rationalFloorsUptoRow : OpenClaim := { program := "ytnkfbkdcplbgoaagreatdoor", sum := "198fb502ddd44d6f9d0d11cf674503a8f2c40eb6a40925f0f19f28ef38105d1f", func := "bspregion/bspregionlaw03.RationalFloors", spec := "rationalFloors", inPlace := ["internal/bytealg.IndexByteString", "internal/bytealg.IndexString", "internal/reflectlite.TypeOf"], unfollowed := true, recurses := true, named := ["math/bits.overflowError", "bspregion/api.ErrRange", "bspregion/api.ErrSyntax", "bspregion/api.ErrLimit", "internal/bytealg.MaxLen"], apart := false, laid := [("bspregion/api.ErrSyntax", laid_bspregion_api_ErrSyntax), ("bspregion/api.ErrLimit", laid_bspregion_api_ErrLimit), ("bspregion/api.ErrRange", laid_bspregion_api_ErrRange)], narrowed := true }
def RationalFloorsUptoSaid : Prop := rationalFloorsUptoRow.holds Tryz.pinned (OpenSpec.upto rationalFloorsSpec)

/-- 'bspregionlaw03.RationalField', WHERE WHAT IT READS IS OF BULK AT MOST 1048576: true; the input reads as it did. -/
def rationalFieldUptoRow : OpenClaim := { program := "ytnkfbkdcplbgoaagreatdoor", sum := "198fb502ddd44d6f9d0d11cf674503a8f2c40eb6a40925f0f19f28ef38105d1f", func := "bspregion/bspregionlaw03.RationalField", spec := "rationalField", inPlace := ["internal/bytealg.IndexByteString", "internal/bytealg.IndexString", "internal/reflectlite.TypeOf"], unfollowed := true, recurses := true, named := ["math/bits.overflowError", "bspregion/api.ErrRange", "bspregion/api.ErrSyntax", "bspregion/api.ErrLimit", "internal/bytealg.MaxLen"], apart := false, laid := [("bspregion/api.ErrSyntax", laid_bspregion_api_ErrSyntax), ("bspregion/api.ErrLimit", laid_bspregion_api_ErrLimit), ("bspregion/api.ErrRange", laid_bspregion_api_ErrRange)], narrowed := true }
def RationalFieldUptoSaid : Prop := rationalFieldUptoRow.holds Tryz.pinned (OpenSpec.upto rationalFieldSpec)

/-- 'bspregionlaw03.RationalComputes', WHERE WHAT IT READS IS OF BULK AT MOST 1048576: true; the input reads as it did. -/
def rationalComputesUptoRow : OpenClaim := { program := "ytnkfbkdcplbgoaagreatdoor", sum := "198fb502ddd44d6f9d0d11cf674503a8f2c40eb6a40925f0f19f28ef38105d1f", func := "bspregion/bspregionlaw03.RationalComputes", spec := "rationalComputes", inPlace := ["internal/bytealg.IndexByteString", "internal/bytealg.IndexString", "internal/reflectlite.TypeOf"], unfollowed := true, recurses := true, named := ["math/bits.overflowError", "bspregion/api.ErrRange", "bspregion/api.ErrSyntax", "bspregion/api.ErrLimit", "internal/bytealg.MaxLen"], apart := false, laid := [("bspregion/api.ErrSyntax", laid_bspregion_api_ErrSyntax), ("bspregion/api.ErrLimit", laid_bspregion_api_ErrLimit), ("bspregion/api.ErrRange", laid_bspregion_api_ErrRange)], narrowed := true }
def RationalComputesUptoSaid : Prop := rationalComputesUptoRow.holds Tryz.pinned (OpenSpec.upto rationalComputesSpec)

end Rows
end Go.Proofs.YtnkfbkdcplbgoaaGreatDoor
