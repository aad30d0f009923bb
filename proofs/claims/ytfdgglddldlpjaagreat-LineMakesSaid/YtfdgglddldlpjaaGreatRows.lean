/-
  No cell of these rows narrows 'for every input' (looked for: loops, veiled, ifaces, maps, wideKeys, modest, calm, conditions, laid).
  DERIVED. THE GIVEN ROWS OF THIS SEAT. 4 by the template 'for every input the law returns true; each argument reads behind the call as it read before'; 0 by the template 'total and deterministic' (their statements: YtfdgglddldlpjaaGreatTotals.lean).
  GIVEN WITH THE SEED: the statements are not yours to turn. If you find one false, say at which input.
  Laid BY PROGRAM, IN A SANDBOX (cutbox-rows.mjs): the forced cells as the released guide's own fill.sh prints them over the translation e8374898be1d2b85… (all of the seat's roots in one cut). By AI agents, Wed Nov 11 2026. No macro, syntax, notation, axiom, sorry.
-/
import Derived.Test.YtfdgglddldlpjaaGreatChecked
import GoSem.Claim
import GoSem.ClaimJoined
import GoSem.ClaimMapViews
import Derived.JoinedTies
import Derived.KernelRfl
namespace Go.Proofs.YtfdgglddldlpjaaGreat
/- THE CELL 'sum', in the pinned program and in every row, IS THE sha256 OF THE DUMP (.gsa) THAT YtfdgglddldlpjaaGreatProg.lean LOADS. Nothing in Lean hashes anything: it is a label: what it is worth is what the hold of that sum in a sandbox is worth. -/
noncomputable def Tryz.pinned : Pinned := { name := "ytfdgglddldlpjaagreat", sum := "e8374898be1d2b859e1a771fdbebf5bd1c5a286dc6d842c9741aa2fb9bc9027e", checked := Tryz.checked }
namespace Rows
def none {H : Type} : Left H := { results := [], args := [] }

/-- 'bspregionlaw05.LineMakes': WHATEVER THE INPUT: true; the input reads as it did. -/
def lineMakesSpec : ChangeSpec := { name := "lineMakes", fn := fun _ => fun
  | [d1, d2, d3, d4] => { results := [.lit (.bool true)], args := [d1, d2, d3, d4] }
  | _ => none }
def lineMakesRow : OpenClaim := { program := "ytfdgglddldlpjaagreat", sum := "e8374898be1d2b859e1a771fdbebf5bd1c5a286dc6d842c9741aa2fb9bc9027e", func := "bspregion/bspregionlaw05.LineMakes", spec := "lineMakes", unfollowed := true, recurses := true, named := ["math/bits.overflowError"], apart := false }
def LineMakesSaid : Prop := lineMakesRow.holds Tryz.pinned (OpenSpec.ofChange lineMakesSpec)

/-- ITS FALSE NEIGHBOUR: 'it returns false'. Refute it at one input. -/
def lineMakesWrong : ChangeSpec := { name := "lineMakes", fn := fun _ => fun
  | [d1, d2, d3, d4] => { results := [.lit (.bool false)], args := [d1, d2, d3, d4] }
  | _ => none }
def LineMakesWrongFalsely : Prop := lineMakesRow.holds Tryz.pinned (OpenSpec.ofChange lineMakesWrong)

/-- 'bspregionlaw05.LineMeets': WHATEVER THE INPUT: true; the input reads as it did. -/
def lineMeetsSpec : ChangeSpec := { name := "lineMeets", fn := fun _ => fun
  | [d] => { results := [.lit (.bool true)], args := [d] }
  | _ => none }
def lineMeetsRow : OpenClaim := { program := "ytfdgglddldlpjaagreat", sum := "e8374898be1d2b859e1a771fdbebf5bd1c5a286dc6d842c9741aa2fb9bc9027e", func := "bspregion/bspregionlaw05.LineMeets", spec := "lineMeets", unfollowed := true, recurses := true, named := ["math/bits.overflowError"], apart := false }
def LineMeetsSaid : Prop := lineMeetsRow.holds Tryz.pinned (OpenSpec.ofChange lineMeetsSpec)

/-- ITS FALSE NEIGHBOUR: 'it returns false'. Refute it at one input. -/
def lineMeetsWrong : ChangeSpec := { name := "lineMeets", fn := fun _ => fun
  | [d] => { results := [.lit (.bool false)], args := [d] }
  | _ => none }
def LineMeetsWrongFalsely : Prop := lineMeetsRow.holds Tryz.pinned (OpenSpec.ofChange lineMeetsWrong)

/-- 'bspregionlaw05.LinePoints': WHATEVER THE INPUT: true; the input reads as it did. -/
def linePointsSpec : ChangeSpec := { name := "linePoints", fn := fun _ => fun
  | [d] => { results := [.lit (.bool true)], args := [d] }
  | _ => none }
def linePointsRow : OpenClaim := { program := "ytfdgglddldlpjaagreat", sum := "e8374898be1d2b859e1a771fdbebf5bd1c5a286dc6d842c9741aa2fb9bc9027e", func := "bspregion/bspregionlaw05.LinePoints", spec := "linePoints", unfollowed := true, recurses := true, named := ["math/bits.overflowError"], apart := false }
def LinePointsSaid : Prop := linePointsRow.holds Tryz.pinned (OpenSpec.ofChange linePointsSpec)

/-- ITS FALSE NEIGHBOUR: 'it returns false'. Refute it at one input. -/
def linePointsWrong : ChangeSpec := { name := "linePoints", fn := fun _ => fun
  | [d] => { results := [.lit (.bool false)], args := [d] }
  | _ => none }
def LinePointsWrongFalsely : Prop := linePointsRow.holds Tryz.pinned (OpenSpec.ofChange linePointsWrong)

/-- 'bspregionlaw05.LineRelates': WHATEVER THE INPUT: true; the input reads as it did. -/
def lineRelatesSpec : ChangeSpec := { name := "lineRelates", fn := fun _ => fun
  | [d] => { results := [.lit (.bool true)], args := [d] }
  | _ => none }
def lineRelatesRow : OpenClaim := { program := "ytfdgglddldlpjaagreat", sum := "e8374898be1d2b859e1a771fdbebf5bd1c5a286dc6d842c9741aa2fb9bc9027e", func := "bspregion/bspregionlaw05.LineRelates", spec := "lineRelates", unfollowed := true, recurses := true, named := ["math/bits.overflowError"], apart := false }
def LineRelatesSaid : Prop := lineRelatesRow.holds Tryz.pinned (OpenSpec.ofChange lineRelatesSpec)

/-- ITS FALSE NEIGHBOUR: 'it returns false'. Refute it at one input. -/
def lineRelatesWrong : ChangeSpec := { name := "lineRelates", fn := fun _ => fun
  | [d] => { results := [.lit (.bool false)], args := [d] }
  | _ => none }
def LineRelatesWrongFalsely : Prop := lineRelatesRow.holds Tryz.pinned (OpenSpec.ofChange lineRelatesWrong)

/- THE SECOND FORM. 'bulk': how many values and letters a reading holds, each counted each time it is reached (what is shared counts as often as it is met; a slice's spare places count too). A statement '..UptoSaid' is the law's where the arguments, and the package variables that the reading takes, are together of bulk at most 1048576: NARROWER than '..Said'. Prove '..Said' where nothing that the law and all that it calls make is longer than what came in: it says more and counts as full. Else prove '..UptoSaid'. A law counts once. -/
mutual
def uptoBulk {H : Type} : DataW H → Nat
  | .lit (.string bytes) => bytes.length + 1
  | .lit _ => 1
  | .nil => 1
  | .ptr d => uptoBulk d + 1
  | .slice elems spare => uptoBulkAll elems + uptoBulkAll spare + 1
  | .agg parts => uptoBulkAll parts + 1
  | .iface _ d => uptoBulk d + 1
  | .map entries => uptoBulkEntries entries + 1
  | .held _ => 1
def uptoBulkAll {H : Type} : List (DataW H) → Nat
  | [] => 0
  | d :: r => uptoBulk d + uptoBulkAll r
def uptoBulkEntries {H : Type} : List (Lit × DataW H) → Nat
  | [] => 0
  | x :: r => uptoBulkEntry x + uptoBulkEntries r
def uptoBulkEntry {H : Type} : Lit × DataW H → Nat
  | (.string bytes, d) => bytes.length + uptoBulk d + 1
  | (_, d) => uptoBulk d + 1
 end
def uptoSmall : (H : Type) → List (DataW H) → Bool := fun _ ds => decide (uptoBulkAll ds ≤ 1048576)
def OpenSpec.upto (s : _root_.Go.ChangeSpec) : _root_.Go.OpenSpec := { _root_.Go.OpenSpec.ofChange s with cond := some uptoSmall }

/-- 'bspregionlaw05.LineMakes', WHERE WHAT IT READS IS OF BULK AT MOST 1048576: true; the input reads as it did. -/
def lineMakesUptoRow : OpenClaim := { program := "ytfdgglddldlpjaagreat", sum := "e8374898be1d2b859e1a771fdbebf5bd1c5a286dc6d842c9741aa2fb9bc9027e", func := "bspregion/bspregionlaw05.LineMakes", spec := "lineMakes", unfollowed := true, recurses := true, named := ["math/bits.overflowError"], apart := false, narrowed := true }
def LineMakesUptoSaid : Prop := lineMakesUptoRow.holds Tryz.pinned (OpenSpec.upto lineMakesSpec)

/-- 'bspregionlaw05.LineMeets', WHERE WHAT IT READS IS OF BULK AT MOST 1048576: true; the input reads as it did. -/
def lineMeetsUptoRow : OpenClaim := { program := "ytfdgglddldlpjaagreat", sum := "e8374898be1d2b859e1a771fdbebf5bd1c5a286dc6d842c9741aa2fb9bc9027e", func := "bspregion/bspregionlaw05.LineMeets", spec := "lineMeets", unfollowed := true, recurses := true, named := ["math/bits.overflowError"], apart := false, narrowed := true }
def LineMeetsUptoSaid : Prop := lineMeetsUptoRow.holds Tryz.pinned (OpenSpec.upto lineMeetsSpec)

/-- 'bspregionlaw05.LinePoints', WHERE WHAT IT READS IS OF BULK AT MOST 1048576: true; the input reads as it did. -/
def linePointsUptoRow : OpenClaim := { program := "ytfdgglddldlpjaagreat", sum := "e8374898be1d2b859e1a771fdbebf5bd1c5a286dc6d842c9741aa2fb9bc9027e", func := "bspregion/bspregionlaw05.LinePoints", spec := "linePoints", unfollowed := true, recurses := true, named := ["math/bits.overflowError"], apart := false, narrowed := true }
def LinePointsUptoSaid : Prop := linePointsUptoRow.holds Tryz.pinned (OpenSpec.upto linePointsSpec)

/-- 'bspregionlaw05.LineRelates', WHERE WHAT IT READS IS OF BULK AT MOST 1048576: true; the input reads as it did. -/
def lineRelatesUptoRow : OpenClaim := { program := "ytfdgglddldlpjaagreat", sum := "e8374898be1d2b859e1a771fdbebf5bd1c5a286dc6d842c9741aa2fb9bc9027e", func := "bspregion/bspregionlaw05.LineRelates", spec := "lineRelates", unfollowed := true, recurses := true, named := ["math/bits.overflowError"], apart := false, narrowed := true }
def LineRelatesUptoSaid : Prop := lineRelatesUptoRow.holds Tryz.pinned (OpenSpec.upto lineRelatesSpec)

end Rows
end Go.Proofs.YtfdgglddldlpjaaGreat
