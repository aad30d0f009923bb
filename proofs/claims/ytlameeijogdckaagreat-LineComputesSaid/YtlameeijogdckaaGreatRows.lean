/-
  No cell of these rows narrows 'for every input' (looked for: loops, veiled, ifaces, maps, wideKeys, modest, calm, conditions, laid).
  DERIVED. THE GIVEN ROWS OF THIS SEAT. 9 by the template 'for every input the law returns true; each argument reads behind the call as it read before'; 0 by the template 'total and deterministic' (their statements: YtlameeijogdckaaGreatTotals.lean).
  GIVEN WITH THE SEED: the statements are not yours to turn. If you find one false, say at which input.
  Laid BY PROGRAM, IN A SANDBOX (cutbox-rows.mjs): the forced cells as the released guide's own fill.sh prints them over the translation 453222791369be03… (all of the seat's roots in one cut). By AI agents, Wed Nov 11 2026. No macro, syntax, notation, axiom, sorry.
-/
import Derived.Test.YtlameeijogdckaaGreatChecked
import GoSem.Claim
import GoSem.ClaimJoined
import GoSem.ClaimMapViews
import Derived.JoinedTies
import Derived.KernelRfl
namespace Go.Proofs.YtlameeijogdckaaGreat
/- THE CELL 'sum', in the pinned program and in every row, IS THE sha256 OF THE DUMP (.gsa) THAT YtlameeijogdckaaGreatProg.lean LOADS. Nothing in Lean hashes anything: it is a label: what it is worth is what the hold of that sum in a sandbox is worth. -/
noncomputable def Tryz.pinned : Pinned := { name := "ytlameeijogdckaagreat", sum := "453222791369be03f061f9060f5468c7ddf417807db93d1ae4695cd795b56de4", checked := Tryz.checked }
namespace Rows
def none {H : Type} : Left H := { results := [], args := [] }

/-- 'bspregionlaw04.PointForms': WHATEVER THE INPUT: true; the input reads as it did. -/
def pointFormsSpec : ChangeSpec := { name := "pointForms", fn := fun _ => fun
  | [d1, d2, d3, d4] => { results := [.lit (.bool true)], args := [d1, d2, d3, d4] }
  | _ => none }
def pointFormsRow : OpenClaim := { program := "ytlameeijogdckaagreat", sum := "453222791369be03f061f9060f5468c7ddf417807db93d1ae4695cd795b56de4", func := "bspregion/bspregionlaw04.PointForms", spec := "pointForms", named := ["math/bits.overflowError"], apart := false }
def PointFormsSaid : Prop := pointFormsRow.holds Tryz.pinned (OpenSpec.ofChange pointFormsSpec)

/-- ITS FALSE NEIGHBOUR: 'it returns false'. Refute it at one input. -/
def pointFormsWrong : ChangeSpec := { name := "pointForms", fn := fun _ => fun
  | [d1, d2, d3, d4] => { results := [.lit (.bool false)], args := [d1, d2, d3, d4] }
  | _ => none }
def PointFormsWrongFalsely : Prop := pointFormsRow.holds Tryz.pinned (OpenSpec.ofChange pointFormsWrong)

/-- 'bspregionlaw05.LineMakes': WHATEVER THE INPUT: true; the input reads as it did. -/
def lineMakesSpec : ChangeSpec := { name := "lineMakes", fn := fun _ => fun
  | [d1, d2, d3, d4] => { results := [.lit (.bool true)], args := [d1, d2, d3, d4] }
  | _ => none }
def lineMakesRow : OpenClaim := { program := "ytlameeijogdckaagreat", sum := "453222791369be03f061f9060f5468c7ddf417807db93d1ae4695cd795b56de4", func := "bspregion/bspregionlaw05.LineMakes", spec := "lineMakes", unfollowed := true, recurses := true, named := ["math/bits.overflowError"], apart := false }
def LineMakesSaid : Prop := lineMakesRow.holds Tryz.pinned (OpenSpec.ofChange lineMakesSpec)

/-- ITS FALSE NEIGHBOUR: 'it returns false'. Refute it at one input. -/
def lineMakesWrong : ChangeSpec := { name := "lineMakes", fn := fun _ => fun
  | [d1, d2, d3, d4] => { results := [.lit (.bool false)], args := [d1, d2, d3, d4] }
  | _ => none }
def LineMakesWrongFalsely : Prop := lineMakesRow.holds Tryz.pinned (OpenSpec.ofChange lineMakesWrong)

/-- 'bspregionlaw04.PointAngles': WHATEVER THE INPUT: true; the input reads as it did. -/
def pointAnglesSpec : ChangeSpec := { name := "pointAngles", fn := fun _ => fun
  | [d] => { results := [.lit (.bool true)], args := [d] }
  | _ => none }
def pointAnglesRow : OpenClaim := { program := "ytlameeijogdckaagreat", sum := "453222791369be03f061f9060f5468c7ddf417807db93d1ae4695cd795b56de4", func := "bspregion/bspregionlaw04.PointAngles", spec := "pointAngles", named := ["math/bits.overflowError"], apart := false }
def PointAnglesSaid : Prop := pointAnglesRow.holds Tryz.pinned (OpenSpec.ofChange pointAnglesSpec)

/-- ITS FALSE NEIGHBOUR: 'it returns false'. Refute it at one input. -/
def pointAnglesWrong : ChangeSpec := { name := "pointAngles", fn := fun _ => fun
  | [d] => { results := [.lit (.bool false)], args := [d] }
  | _ => none }
def PointAnglesWrongFalsely : Prop := pointAnglesRow.holds Tryz.pinned (OpenSpec.ofChange pointAnglesWrong)

/-- 'bspregionlaw04.PointOrders': WHATEVER THE INPUT: true; the input reads as it did. -/
def pointOrdersSpec : ChangeSpec := { name := "pointOrders", fn := fun _ => fun
  | [d] => { results := [.lit (.bool true)], args := [d] }
  | _ => none }
def pointOrdersRow : OpenClaim := { program := "ytlameeijogdckaagreat", sum := "453222791369be03f061f9060f5468c7ddf417807db93d1ae4695cd795b56de4", func := "bspregion/bspregionlaw04.PointOrders", spec := "pointOrders", named := ["math/bits.overflowError"], apart := false }
def PointOrdersSaid : Prop := pointOrdersRow.holds Tryz.pinned (OpenSpec.ofChange pointOrdersSpec)

/-- ITS FALSE NEIGHBOUR: 'it returns false'. Refute it at one input. -/
def pointOrdersWrong : ChangeSpec := { name := "pointOrders", fn := fun _ => fun
  | [d] => { results := [.lit (.bool false)], args := [d] }
  | _ => none }
def PointOrdersWrongFalsely : Prop := pointOrdersRow.holds Tryz.pinned (OpenSpec.ofChange pointOrdersWrong)

/-- 'bspregionlaw05.LineComputes': WHATEVER THE INPUT: true; the input reads as it did. -/
def lineComputesSpec : ChangeSpec := { name := "lineComputes", fn := fun _ => fun
  | [d] => { results := [.lit (.bool true)], args := [d] }
  | _ => none }
def lineComputesRow : OpenClaim := { program := "ytlameeijogdckaagreat", sum := "453222791369be03f061f9060f5468c7ddf417807db93d1ae4695cd795b56de4", func := "bspregion/bspregionlaw05.LineComputes", spec := "lineComputes", unfollowed := true, recurses := true, named := ["math/bits.overflowError"], apart := false }
def LineComputesSaid : Prop := lineComputesRow.holds Tryz.pinned (OpenSpec.ofChange lineComputesSpec)

/-- ITS FALSE NEIGHBOUR: 'it returns false'. Refute it at one input. -/
def lineComputesWrong : ChangeSpec := { name := "lineComputes", fn := fun _ => fun
  | [d] => { results := [.lit (.bool false)], args := [d] }
  | _ => none }
def LineComputesWrongFalsely : Prop := lineComputesRow.holds Tryz.pinned (OpenSpec.ofChange lineComputesWrong)

/-- 'bspregionlaw05.LineMeets': WHATEVER THE INPUT: true; the input reads as it did. -/
def lineMeetsSpec : ChangeSpec := { name := "lineMeets", fn := fun _ => fun
  | [d] => { results := [.lit (.bool true)], args := [d] }
  | _ => none }
def lineMeetsRow : OpenClaim := { program := "ytlameeijogdckaagreat", sum := "453222791369be03f061f9060f5468c7ddf417807db93d1ae4695cd795b56de4", func := "bspregion/bspregionlaw05.LineMeets", spec := "lineMeets", unfollowed := true, recurses := true, named := ["math/bits.overflowError"], apart := false }
def LineMeetsSaid : Prop := lineMeetsRow.holds Tryz.pinned (OpenSpec.ofChange lineMeetsSpec)

/-- ITS FALSE NEIGHBOUR: 'it returns false'. Refute it at one input. -/
def lineMeetsWrong : ChangeSpec := { name := "lineMeets", fn := fun _ => fun
  | [d] => { results := [.lit (.bool false)], args := [d] }
  | _ => none }
def LineMeetsWrongFalsely : Prop := lineMeetsRow.holds Tryz.pinned (OpenSpec.ofChange lineMeetsWrong)

/-- 'bspregionlaw05.LineOrder': WHATEVER THE INPUT: true; the input reads as it did. -/
def lineOrderSpec : ChangeSpec := { name := "lineOrder", fn := fun _ => fun
  | [d] => { results := [.lit (.bool true)], args := [d] }
  | _ => none }
def lineOrderRow : OpenClaim := { program := "ytlameeijogdckaagreat", sum := "453222791369be03f061f9060f5468c7ddf417807db93d1ae4695cd795b56de4", func := "bspregion/bspregionlaw05.LineOrder", spec := "lineOrder", unfollowed := true, recurses := true, named := ["math/bits.overflowError"], apart := false }
def LineOrderSaid : Prop := lineOrderRow.holds Tryz.pinned (OpenSpec.ofChange lineOrderSpec)

/-- ITS FALSE NEIGHBOUR: 'it returns false'. Refute it at one input. -/
def lineOrderWrong : ChangeSpec := { name := "lineOrder", fn := fun _ => fun
  | [d] => { results := [.lit (.bool false)], args := [d] }
  | _ => none }
def LineOrderWrongFalsely : Prop := lineOrderRow.holds Tryz.pinned (OpenSpec.ofChange lineOrderWrong)

/-- 'bspregionlaw05.LinePoints': WHATEVER THE INPUT: true; the input reads as it did. -/
def linePointsSpec : ChangeSpec := { name := "linePoints", fn := fun _ => fun
  | [d] => { results := [.lit (.bool true)], args := [d] }
  | _ => none }
def linePointsRow : OpenClaim := { program := "ytlameeijogdckaagreat", sum := "453222791369be03f061f9060f5468c7ddf417807db93d1ae4695cd795b56de4", func := "bspregion/bspregionlaw05.LinePoints", spec := "linePoints", unfollowed := true, recurses := true, named := ["math/bits.overflowError"], apart := false }
def LinePointsSaid : Prop := linePointsRow.holds Tryz.pinned (OpenSpec.ofChange linePointsSpec)

/-- ITS FALSE NEIGHBOUR: 'it returns false'. Refute it at one input. -/
def linePointsWrong : ChangeSpec := { name := "linePoints", fn := fun _ => fun
  | [d] => { results := [.lit (.bool false)], args := [d] }
  | _ => none }
def LinePointsWrongFalsely : Prop := linePointsRow.holds Tryz.pinned (OpenSpec.ofChange linePointsWrong)

/-- 'bspregionlaw05.LineRelates': WHATEVER THE INPUT: true; the input reads as it did. -/
def lineRelatesSpec : ChangeSpec := { name := "lineRelates", fn := fun _ => fun
  | [d] => { results := [.lit (.bool true)], args := [d] }
  | _ => none }
def lineRelatesRow : OpenClaim := { program := "ytlameeijogdckaagreat", sum := "453222791369be03f061f9060f5468c7ddf417807db93d1ae4695cd795b56de4", func := "bspregion/bspregionlaw05.LineRelates", spec := "lineRelates", unfollowed := true, recurses := true, named := ["math/bits.overflowError"], apart := false }
def LineRelatesSaid : Prop := lineRelatesRow.holds Tryz.pinned (OpenSpec.ofChange lineRelatesSpec)

/-- ITS FALSE NEIGHBOUR: 'it returns false'. Refute it at one input. -/
def lineRelatesWrong : ChangeSpec := { name := "lineRelates", fn := fun _ => fun
  | [d] => { results := [.lit (.bool false)], args := [d] }
  | _ => none }
def LineRelatesWrongFalsely : Prop := lineRelatesRow.holds Tryz.pinned (OpenSpec.ofChange lineRelatesWrong)

/- THE SECOND FORM. 'bulk': how many values and letters a reading holds, each counted each time it is reached (what is shared counts as often as it is met; a slice's spare places count too). A statement '..UptoSaid' is the law's where the arguments, and the package variables that the reading takes, are together of bulk at most 1048576: NARROWER than '..Said'. Prove '..Said' where nothing that the law and all that it calls make is longer than what came in: it says more and counts as full. Else prove '..UptoSaid'. A law counts once. -/
mutual
def uptoBulk {H : Type} : DataW H → Nat
  | .lit (.string bytes) => bytes.length + 1
  | .lit _ => 1
  | .nil => 1
  | .ptr d => uptoBulk d + 1
  | .slice elems spare => uptoBulkAll elems + uptoBulkAll spare + 1
  | .agg parts => uptoBulkAll parts + 1
  | .iface _ d => uptoBulk d + 1
  | .map entries => uptoBulkEntries entries + 1
  | .held _ => 1
def uptoBulkAll {H : Type} : List (DataW H) → Nat
  | [] => 0
  | d :: r => uptoBulk d + uptoBulkAll r
def uptoBulkEntries {H : Type} : List (Lit × DataW H) → Nat
  | [] => 0
  | x :: r => uptoBulkEntry x + uptoBulkEntries r
def uptoBulkEntry {H : Type} : Lit × DataW H → Nat
  | (.string bytes, d) => bytes.length + uptoBulk d + 1
  | (_, d) => uptoBulk d + 1
 end
def uptoSmall : (H : Type) → List (DataW H) → Bool := fun _ ds => decide (uptoBulkAll ds ≤ 1048576)
def OpenSpec.upto (s : _root_.Go.ChangeSpec) : _root_.Go.OpenSpec := { _root_.Go.OpenSpec.ofChange s with cond := some uptoSmall }

/-- 'bspregionlaw04.PointForms', WHERE WHAT IT READS IS OF BULK AT MOST 1048576: true; the input reads as it did. -/
def pointFormsUptoRow : OpenClaim := { program := "ytlameeijogdckaagreat", sum := "453222791369be03f061f9060f5468c7ddf417807db93d1ae4695cd795b56de4", func := "bspregion/bspregionlaw04.PointForms", spec := "pointForms", named := ["math/bits.overflowError"], apart := false, narrowed := true }
def PointFormsUptoSaid : Prop := pointFormsUptoRow.holds Tryz.pinned (OpenSpec.upto pointFormsSpec)

/-- 'bspregionlaw05.LineMakes', WHERE WHAT IT READS IS OF BULK AT MOST 1048576: true; the input reads as it did. -/
def lineMakesUptoRow : OpenClaim := { program := "ytlameeijogdckaagreat", sum := "453222791369be03f061f9060f5468c7ddf417807db93d1ae4695cd795b56de4", func := "bspregion/bspregionlaw05.LineMakes", spec := "lineMakes", unfollowed := true, recurses := true, named := ["math/bits.overflowError"], apart := false, narrowed := true }
def LineMakesUptoSaid : Prop := lineMakesUptoRow.holds Tryz.pinned (OpenSpec.upto lineMakesSpec)

/-- 'bspregionlaw04.PointAngles', WHERE WHAT IT READS IS OF BULK AT MOST 1048576: true; the input reads as it did. -/
def pointAnglesUptoRow : OpenClaim := { program := "ytlameeijogdckaagreat", sum := "453222791369be03f061f9060f5468c7ddf417807db93d1ae4695cd795b56de4", func := "bspregion/bspregionlaw04.PointAngles", spec := "pointAngles", named := ["math/bits.overflowError"], apart := false, narrowed := true }
def PointAnglesUptoSaid : Prop := pointAnglesUptoRow.holds Tryz.pinned (OpenSpec.upto pointAnglesSpec)

/-- 'bspregionlaw04.PointOrders', WHERE WHAT IT READS IS OF BULK AT MOST 1048576: true; the input reads as it did. -/
def pointOrdersUptoRow : OpenClaim := { program := "ytlameeijogdckaagreat", sum := "453222791369be03f061f9060f5468c7ddf417807db93d1ae4695cd795b56de4", func := "bspregion/bspregionlaw04.PointOrders", spec := "pointOrders", named := ["math/bits.overflowError"], apart := false, narrowed := true }
def PointOrdersUptoSaid : Prop := pointOrdersUptoRow.holds Tryz.pinned (OpenSpec.upto pointOrdersSpec)

/-- 'bspregionlaw05.LineComputes', WHERE WHAT IT READS IS OF BULK AT MOST 1048576: true; the input reads as it did. -/
def lineComputesUptoRow : OpenClaim := { program := "ytlameeijogdckaagreat", sum := "453222791369be03f061f9060f5468c7ddf417807db93d1ae4695cd795b56de4", func := "bspregion/bspregionlaw05.LineComputes", spec := "lineComputes", unfollowed := true, recurses := true, named := ["math/bits.overflowError"], apart := false, narrowed := true }
def LineComputesUptoSaid : Prop := lineComputesUptoRow.holds Tryz.pinned (OpenSpec.upto lineComputesSpec)

/-- 'bspregionlaw05.LineMeets', WHERE WHAT IT READS IS OF BULK AT MOST 1048576: true; the input reads as it did. -/
def lineMeetsUptoRow : OpenClaim := { program := "ytlameeijogdckaagreat", sum := "453222791369be03f061f9060f5468c7ddf417807db93d1ae4695cd795b56de4", func := "bspregion/bspregionlaw05.LineMeets", spec := "lineMeets", unfollowed := true, recurses := true, named := ["math/bits.overflowError"], apart := false, narrowed := true }
def LineMeetsUptoSaid : Prop := lineMeetsUptoRow.holds Tryz.pinned (OpenSpec.upto lineMeetsSpec)

/-- 'bspregionlaw05.LineOrder', WHERE WHAT IT READS IS OF BULK AT MOST 1048576: true; the input reads as it did. -/
def lineOrderUptoRow : OpenClaim := { program := "ytlameeijogdckaagreat", sum := "453222791369be03f061f9060f5468c7ddf417807db93d1ae4695cd795b56de4", func := "bspregion/bspregionlaw05.LineOrder", spec := "lineOrder", unfollowed := true, recurses := true, named := ["math/bits.overflowError"], apart := false, narrowed := true }
def LineOrderUptoSaid : Prop := lineOrderUptoRow.holds Tryz.pinned (OpenSpec.upto lineOrderSpec)

/-- 'bspregionlaw05.LinePoints', WHERE WHAT IT READS IS OF BULK AT MOST 1048576: true; the input reads as it did. -/
def linePointsUptoRow : OpenClaim := { program := "ytlameeijogdckaagreat", sum := "453222791369be03f061f9060f5468c7ddf417807db93d1ae4695cd795b56de4", func := "bspregion/bspregionlaw05.LinePoints", spec := "linePoints", unfollowed := true, recurses := true, named := ["math/bits.overflowError"], apart := false, narrowed := true }
def LinePointsUptoSaid : Prop := linePointsUptoRow.holds Tryz.pinned (OpenSpec.upto linePointsSpec)

/-- 'bspregionlaw05.LineRelates', WHERE WHAT IT READS IS OF BULK AT MOST 1048576: true; the input reads as it did. -/
def lineRelatesUptoRow : OpenClaim := { program := "ytlameeijogdckaagreat", sum := "453222791369be03f061f9060f5468c7ddf417807db93d1ae4695cd795b56de4", func := "bspregion/bspregionlaw05.LineRelates", spec := "lineRelates", unfollowed := true, recurses := true, named := ["math/bits.overflowError"], apart := false, narrowed := true }
def LineRelatesUptoSaid : Prop := lineRelatesUptoRow.holds Tryz.pinned (OpenSpec.upto lineRelatesSpec)

end Rows
end Go.Proofs.YtlameeijogdckaaGreat
