/-
  No cell of these rows narrows 'for every input' (looked for: loops, veiled, ifaces, maps, wideKeys, modest, calm, conditions, laid).
  DERIVED. THE GIVEN ROWS OF THIS SEAT. 12 by the template 'for every input the law returns true; each argument reads behind the call as it read before'; 0 by the template 'total and deterministic' (their statements: YtdbocgemikkgiaaTotals.lean).
  GIVEN WITH THE SEED: the statements are not yours to turn. If you find one false, say at which input.
  Laid BY PROGRAM, IN A SANDBOX (cutbox-rows.mjs): the forced cells as the released guide's own fill.sh prints them over the translation 65acb51dd6ea155a… (all of the seat's roots in one cut). By AI agents, Wed Nov 11 2026. No macro, syntax, notation, axiom, sorry.
-/
import Derived.Test.YtdbocgemikkgiaaChecked
import GoSem.Claim
import GoSem.ClaimJoined
import GoSem.ClaimMapViews
import Derived.JoinedTies
import Derived.KernelRfl
namespace Go.Proofs.Ytdbocgemikkgiaa
/- THE CELL 'sum', in the pinned program and in every row, IS THE sha256 OF THE DUMP (.gsa) THAT YtdbocgemikkgiaaProg.lean LOADS. Nothing in Lean hashes anything: it is a label: what it is worth is what the hold of that sum in a sandbox is worth. -/
noncomputable def Try.pinned : Pinned := { name := "ytdbocgemikkgiaa", sum := "65acb51dd6ea155a6f5768897bf1e1ecf991fe5a7c9224aae3e1ea8068a048af", checked := Try.checked }
namespace Rows
def none {H : Type} : Left H := { results := [], args := [] }

/-- 'bspregionlaw01.NatShifts': WHATEVER THE INPUT: true; the input reads as it did. -/
def natShiftsSpec : ChangeSpec := { name := "natShifts", fn := fun _ => fun
  | [d1, d2] => { results := [.lit (.bool true)], args := [d1, d2] }
  | _ => none }
def natShiftsRow : OpenClaim := { program := "ytdbocgemikkgiaa", sum := "65acb51dd6ea155a6f5768897bf1e1ecf991fe5a7c9224aae3e1ea8068a048af", func := "bspregion/bspregionlaw01.NatShifts", spec := "natShifts", apart := false }
def NatShiftsSaid : Prop := natShiftsRow.holds Try.pinned (OpenSpec.ofChange natShiftsSpec)

/-- ITS FALSE NEIGHBOUR: 'it returns false'. Refute it at one input. -/
def natShiftsWrong : ChangeSpec := { name := "natShifts", fn := fun _ => fun
  | [d1, d2] => { results := [.lit (.bool false)], args := [d1, d2] }
  | _ => none }
def NatShiftsWrongFalsely : Prop := natShiftsRow.holds Try.pinned (OpenSpec.ofChange natShiftsWrong)

/-- 'bspregionlaw01.NatForms': WHATEVER THE INPUT: true; the input reads as it did. -/
def natFormsSpec : ChangeSpec := { name := "natForms", fn := fun _ => fun
  | [d1, d2] => { results := [.lit (.bool true)], args := [d1, d2] }
  | _ => none }
def natFormsRow : OpenClaim := { program := "ytdbocgemikkgiaa", sum := "65acb51dd6ea155a6f5768897bf1e1ecf991fe5a7c9224aae3e1ea8068a048af", func := "bspregion/bspregionlaw01.NatForms", spec := "natForms", apart := false }
def NatFormsSaid : Prop := natFormsRow.holds Try.pinned (OpenSpec.ofChange natFormsSpec)

/-- ITS FALSE NEIGHBOUR: 'it returns false'. Refute it at one input. -/
def natFormsWrong : ChangeSpec := { name := "natForms", fn := fun _ => fun
  | [d1, d2] => { results := [.lit (.bool false)], args := [d1, d2] }
  | _ => none }
def NatFormsWrongFalsely : Prop := natFormsRow.holds Try.pinned (OpenSpec.ofChange natFormsWrong)

/-- 'bspregionlaw01.NatDivides': WHATEVER THE INPUT: true; the input reads as it did. -/
def natDividesSpec : ChangeSpec := { name := "natDivides", fn := fun _ => fun
  | [d] => { results := [.lit (.bool true)], args := [d] }
  | _ => none }
def natDividesRow : OpenClaim := { program := "ytdbocgemikkgiaa", sum := "65acb51dd6ea155a6f5768897bf1e1ecf991fe5a7c9224aae3e1ea8068a048af", func := "bspregion/bspregionlaw01.NatDivides", spec := "natDivides", apart := false }
def NatDividesSaid : Prop := natDividesRow.holds Try.pinned (OpenSpec.ofChange natDividesSpec)

/-- ITS FALSE NEIGHBOUR: 'it returns false'. Refute it at one input. -/
def natDividesWrong : ChangeSpec := { name := "natDivides", fn := fun _ => fun
  | [d] => { results := [.lit (.bool false)], args := [d] }
  | _ => none }
def NatDividesWrongFalsely : Prop := natDividesRow.holds Try.pinned (OpenSpec.ofChange natDividesWrong)

/-- 'bspregionlaw01.NatRing': WHATEVER THE INPUT: true; the input reads as it did. -/
def natRingSpec : ChangeSpec := { name := "natRing", fn := fun _ => fun
  | [d] => { results := [.lit (.bool true)], args := [d] }
  | _ => none }
def natRingRow : OpenClaim := { program := "ytdbocgemikkgiaa", sum := "65acb51dd6ea155a6f5768897bf1e1ecf991fe5a7c9224aae3e1ea8068a048af", func := "bspregion/bspregionlaw01.NatRing", spec := "natRing", apart := false }
def NatRingSaid : Prop := natRingRow.holds Try.pinned (OpenSpec.ofChange natRingSpec)

/-- ITS FALSE NEIGHBOUR: 'it returns false'. Refute it at one input. -/
def natRingWrong : ChangeSpec := { name := "natRing", fn := fun _ => fun
  | [d] => { results := [.lit (.bool false)], args := [d] }
  | _ => none }
def NatRingWrongFalsely : Prop := natRingRow.holds Try.pinned (OpenSpec.ofChange natRingWrong)

/-- 'bspregionlaw01.NatComputes': WHATEVER THE INPUT: true; the input reads as it did. -/
def natComputesSpec : ChangeSpec := { name := "natComputes", fn := fun _ => fun
  | [d1, d2] => { results := [.lit (.bool true)], args := [d1, d2] }
  | _ => none }
def natComputesRow : OpenClaim := { program := "ytdbocgemikkgiaa", sum := "65acb51dd6ea155a6f5768897bf1e1ecf991fe5a7c9224aae3e1ea8068a048af", func := "bspregion/bspregionlaw01.NatComputes", spec := "natComputes", named := ["math/bits.overflowError"], apart := false }
def NatComputesSaid : Prop := natComputesRow.holds Try.pinned (OpenSpec.ofChange natComputesSpec)

/-- ITS FALSE NEIGHBOUR: 'it returns false'. Refute it at one input. -/
def natComputesWrong : ChangeSpec := { name := "natComputes", fn := fun _ => fun
  | [d1, d2] => { results := [.lit (.bool false)], args := [d1, d2] }
  | _ => none }
def NatComputesWrongFalsely : Prop := natComputesRow.holds Try.pinned (OpenSpec.ofChange natComputesWrong)

/-- 'bspregionlaw01.NatLong': WHATEVER THE INPUT: true; the input reads as it did. -/
def natLongSpec : ChangeSpec := { name := "natLong", fn := fun _ => fun
  | [d] => { results := [.lit (.bool true)], args := [d] }
  | _ => none }
def natLongRow : OpenClaim := { program := "ytdbocgemikkgiaa", sum := "65acb51dd6ea155a6f5768897bf1e1ecf991fe5a7c9224aae3e1ea8068a048af", func := "bspregion/bspregionlaw01.NatLong", spec := "natLong", named := ["math/bits.overflowError"], apart := false }
def NatLongSaid : Prop := natLongRow.holds Try.pinned (OpenSpec.ofChange natLongSpec)

/-- ITS FALSE NEIGHBOUR: 'it returns false'. Refute it at one input. -/
def natLongWrong : ChangeSpec := { name := "natLong", fn := fun _ => fun
  | [d] => { results := [.lit (.bool false)], args := [d] }
  | _ => none }
def NatLongWrongFalsely : Prop := natLongRow.holds Try.pinned (OpenSpec.ofChange natLongWrong)

/-- 'bspregionlaw01.NatRoots': WHATEVER THE INPUT: true; the input reads as it did. -/
def natRootsSpec : ChangeSpec := { name := "natRoots", fn := fun _ => fun
  | [d] => { results := [.lit (.bool true)], args := [d] }
  | _ => none }
def natRootsRow : OpenClaim := { program := "ytdbocgemikkgiaa", sum := "65acb51dd6ea155a6f5768897bf1e1ecf991fe5a7c9224aae3e1ea8068a048af", func := "bspregion/bspregionlaw01.NatRoots", spec := "natRoots", apart := false }
def NatRootsSaid : Prop := natRootsRow.holds Try.pinned (OpenSpec.ofChange natRootsSpec)

/-- ITS FALSE NEIGHBOUR: 'it returns false'. Refute it at one input. -/
def natRootsWrong : ChangeSpec := { name := "natRoots", fn := fun _ => fun
  | [d] => { results := [.lit (.bool false)], args := [d] }
  | _ => none }
def NatRootsWrongFalsely : Prop := natRootsRow.holds Try.pinned (OpenSpec.ofChange natRootsWrong)

/-- 'bspregionlaw01.NatGcd': WHATEVER THE INPUT: true; the input reads as it did. -/
def natGcdSpec : ChangeSpec := { name := "natGcd", fn := fun _ => fun
  | [d] => { results := [.lit (.bool true)], args := [d] }
  | _ => none }
def natGcdRow : OpenClaim := { program := "ytdbocgemikkgiaa", sum := "65acb51dd6ea155a6f5768897bf1e1ecf991fe5a7c9224aae3e1ea8068a048af", func := "bspregion/bspregionlaw01.NatGcd", spec := "natGcd", named := ["math/bits.overflowError"], apart := false }
def NatGcdSaid : Prop := natGcdRow.holds Try.pinned (OpenSpec.ofChange natGcdSpec)

/-- ITS FALSE NEIGHBOUR: 'it returns false'. Refute it at one input. -/
def natGcdWrong : ChangeSpec := { name := "natGcd", fn := fun _ => fun
  | [d] => { results := [.lit (.bool false)], args := [d] }
  | _ => none }
def NatGcdWrongFalsely : Prop := natGcdRow.holds Try.pinned (OpenSpec.ofChange natGcdWrong)

/-- 'bspregionlaw02.IntegerDivides': WHATEVER THE INPUT: true; the input reads as it did. -/
def integerDividesSpec : ChangeSpec := { name := "integerDivides", fn := fun _ => fun
  | [d] => { results := [.lit (.bool true)], args := [d] }
  | _ => none }
def integerDividesRow : OpenClaim := { program := "ytdbocgemikkgiaa", sum := "65acb51dd6ea155a6f5768897bf1e1ecf991fe5a7c9224aae3e1ea8068a048af", func := "bspregion/bspregionlaw02.IntegerDivides", spec := "integerDivides", apart := false }
def IntegerDividesSaid : Prop := integerDividesRow.holds Try.pinned (OpenSpec.ofChange integerDividesSpec)

/-- ITS FALSE NEIGHBOUR: 'it returns false'. Refute it at one input. -/
def integerDividesWrong : ChangeSpec := { name := "integerDivides", fn := fun _ => fun
  | [d] => { results := [.lit (.bool false)], args := [d] }
  | _ => none }
def IntegerDividesWrongFalsely : Prop := integerDividesRow.holds Try.pinned (OpenSpec.ofChange integerDividesWrong)

/-- 'bspregionlaw02.IntegerRing': WHATEVER THE INPUT: true; the input reads as it did. -/
def integerRingSpec : ChangeSpec := { name := "integerRing", fn := fun _ => fun
  | [d] => { results := [.lit (.bool true)], args := [d] }
  | _ => none }
def integerRingRow : OpenClaim := { program := "ytdbocgemikkgiaa", sum := "65acb51dd6ea155a6f5768897bf1e1ecf991fe5a7c9224aae3e1ea8068a048af", func := "bspregion/bspregionlaw02.IntegerRing", spec := "integerRing", apart := false }
def IntegerRingSaid : Prop := integerRingRow.holds Try.pinned (OpenSpec.ofChange integerRingSpec)

/-- ITS FALSE NEIGHBOUR: 'it returns false'. Refute it at one input. -/
def integerRingWrong : ChangeSpec := { name := "integerRing", fn := fun _ => fun
  | [d] => { results := [.lit (.bool false)], args := [d] }
  | _ => none }
def IntegerRingWrongFalsely : Prop := integerRingRow.holds Try.pinned (OpenSpec.ofChange integerRingWrong)

/-- 'bspregionlaw02.IntegerForms': WHATEVER THE INPUT: true; the input reads as it did. -/
def integerFormsSpec : ChangeSpec := { name := "integerForms", fn := fun _ => fun
  | [d1, d2, d3] => { results := [.lit (.bool true)], args := [d1, d2, d3] }
  | _ => none }
def integerFormsRow : OpenClaim := { program := "ytdbocgemikkgiaa", sum := "65acb51dd6ea155a6f5768897bf1e1ecf991fe5a7c9224aae3e1ea8068a048af", func := "bspregion/bspregionlaw02.IntegerForms", spec := "integerForms", apart := false }
def IntegerFormsSaid : Prop := integerFormsRow.holds Try.pinned (OpenSpec.ofChange integerFormsSpec)

/-- ITS FALSE NEIGHBOUR: 'it returns false'. Refute it at one input. -/
def integerFormsWrong : ChangeSpec := { name := "integerForms", fn := fun _ => fun
  | [d1, d2, d3] => { results := [.lit (.bool false)], args := [d1, d2, d3] }
  | _ => none }
def IntegerFormsWrongFalsely : Prop := integerFormsRow.holds Try.pinned (OpenSpec.ofChange integerFormsWrong)

/-- 'bspregionlaw02.IntegerComputes': WHATEVER THE INPUT: true; the input reads as it did. -/
def integerComputesSpec : ChangeSpec := { name := "integerComputes", fn := fun _ => fun
  | [d] => { results := [.lit (.bool true)], args := [d] }
  | _ => none }
def integerComputesRow : OpenClaim := { program := "ytdbocgemikkgiaa", sum := "65acb51dd6ea155a6f5768897bf1e1ecf991fe5a7c9224aae3e1ea8068a048af", func := "bspregion/bspregionlaw02.IntegerComputes", spec := "integerComputes", named := ["math/bits.overflowError"], apart := false }
def IntegerComputesSaid : Prop := integerComputesRow.holds Try.pinned (OpenSpec.ofChange integerComputesSpec)

/-- ITS FALSE NEIGHBOUR: 'it returns false'. Refute it at one input. -/
def integerComputesWrong : ChangeSpec := { name := "integerComputes", fn := fun _ => fun
  | [d] => { results := [.lit (.bool false)], args := [d] }
  | _ => none }
def IntegerComputesWrongFalsely : Prop := integerComputesRow.holds Try.pinned (OpenSpec.ofChange integerComputesWrong)

/- THE SECOND FORM. 'bulk': how many values and letters a reading holds, each counted each time it is reached (what is shared counts as often as it is met; a slice's spare places count too). A statement '..UptoSaid' is the law's where the arguments, and the package variables that the reading takes, are together of bulk at most 1048576: NARROWER than '..Said'. Prove '..Said' where nothing that the law and all that it calls make is longer than what came in: it says more and counts as full. Else prove '..UptoSaid'. A law counts once. -/
mutual
def uptoBulk {H : Type} : DataW H → Nat
  | .lit (.string bytes) => bytes.length + 1
  | .lit _ => 1
  | .nil => 1
  | .ptr d => uptoBulk d + 1
  | .slice elems spare => uptoBulkAll elems + uptoBulkAll spare + 1
  | .agg parts => uptoBulkAll parts + 1
  | .iface _ d => uptoBulk d + 1
  | .map entries => uptoBulkEntries entries + 1
  | .held _ => 1
def uptoBulkAll {H : Type} : List (DataW H) → Nat
  | [] => 0
  | d :: r => uptoBulk d + uptoBulkAll r
def uptoBulkEntries {H : Type} : List (Lit × DataW H) → Nat
  | [] => 0
  | x :: r => uptoBulkEntry x + uptoBulkEntries r
def uptoBulkEntry {H : Type} : Lit × DataW H → Nat
  | (.string bytes, d) => bytes.length + uptoBulk d + 1
  | (_, d) => uptoBulk d + 1
 end
def uptoSmall : (H : Type) → List (DataW H) → Bool := fun _ ds => decide (uptoBulkAll ds ≤ 1048576)
def OpenSpec.upto (s : _root_.Go.ChangeSpec) : _root_.Go.OpenSpec := { _root_.Go.OpenSpec.ofChange s with cond := some uptoSmall }

/-- 'bspregionlaw01.NatShifts', WHERE WHAT IT READS IS OF BULK AT MOST 1048576: true; the input reads as it did. -/
def natShiftsUptoRow : OpenClaim := { program := "ytdbocgemikkgiaa", sum := "65acb51dd6ea155a6f5768897bf1e1ecf991fe5a7c9224aae3e1ea8068a048af", func := "bspregion/bspregionlaw01.NatShifts", spec := "natShifts", apart := false, narrowed := true }
def NatShiftsUptoSaid : Prop := natShiftsUptoRow.holds Try.pinned (OpenSpec.upto natShiftsSpec)

/-- 'bspregionlaw01.NatForms', WHERE WHAT IT READS IS OF BULK AT MOST 1048576: true; the input reads as it did. -/
def natFormsUptoRow : OpenClaim := { program := "ytdbocgemikkgiaa", sum := "65acb51dd6ea155a6f5768897bf1e1ecf991fe5a7c9224aae3e1ea8068a048af", func := "bspregion/bspregionlaw01.NatForms", spec := "natForms", apart := false, narrowed := true }
def NatFormsUptoSaid : Prop := natFormsUptoRow.holds Try.pinned (OpenSpec.upto natFormsSpec)

/-- 'bspregionlaw01.NatDivides', WHERE WHAT IT READS IS OF BULK AT MOST 1048576: true; the input reads as it did. -/
def natDividesUptoRow : OpenClaim := { program := "ytdbocgemikkgiaa", sum := "65acb51dd6ea155a6f5768897bf1e1ecf991fe5a7c9224aae3e1ea8068a048af", func := "bspregion/bspregionlaw01.NatDivides", spec := "natDivides", apart := false, narrowed := true }
def NatDividesUptoSaid : Prop := natDividesUptoRow.holds Try.pinned (OpenSpec.upto natDividesSpec)

/-- 'bspregionlaw01.NatRing', WHERE WHAT IT READS IS OF BULK AT MOST 1048576: true; the input reads as it did. -/
def natRingUptoRow : OpenClaim := { program := "ytdbocgemikkgiaa", sum := "65acb51dd6ea155a6f5768897bf1e1ecf991fe5a7c9224aae3e1ea8068a048af", func := "bspregion/bspregionlaw01.NatRing", spec := "natRing", apart := false, narrowed := true }
def NatRingUptoSaid : Prop := natRingUptoRow.holds Try.pinned (OpenSpec.upto natRingSpec)

/-- 'bspregionlaw01.NatComputes', WHERE WHAT IT READS IS OF BULK AT MOST 1048576: true; the input reads as it did. -/
def natComputesUptoRow : OpenClaim := { program := "ytdbocgemikkgiaa", sum := "65acb51dd6ea155a6f5768897bf1e1ecf991fe5a7c9224aae3e1ea8068a048af", func := "bspregion/bspregionlaw01.NatComputes", spec := "natComputes", named := ["math/bits.overflowError"], apart := false, narrowed := true }
def NatComputesUptoSaid : Prop := natComputesUptoRow.holds Try.pinned (OpenSpec.upto natComputesSpec)

/-- 'bspregionlaw01.NatLong', WHERE WHAT IT READS IS OF BULK AT MOST 1048576: true; the input reads as it did. -/
def natLongUptoRow : OpenClaim := { program := "ytdbocgemikkgiaa", sum := "65acb51dd6ea155a6f5768897bf1e1ecf991fe5a7c9224aae3e1ea8068a048af", func := "bspregion/bspregionlaw01.NatLong", spec := "natLong", named := ["math/bits.overflowError"], apart := false, narrowed := true }
def NatLongUptoSaid : Prop := natLongUptoRow.holds Try.pinned (OpenSpec.upto natLongSpec)

/-- 'bspregionlaw01.NatRoots', WHERE WHAT IT READS IS OF BULK AT MOST 1048576: true; the input reads as it did. -/
def natRootsUptoRow : OpenClaim := { program := "ytdbocgemikkgiaa", sum := "65acb51dd6ea155a6f5768897bf1e1ecf991fe5a7c9224aae3e1ea8068a048af", func := "bspregion/bspregionlaw01.NatRoots", spec := "natRoots", apart := false, narrowed := true }
def NatRootsUptoSaid : Prop := natRootsUptoRow.holds Try.pinned (OpenSpec.upto natRootsSpec)

/-- 'bspregionlaw01.NatGcd', WHERE WHAT IT READS IS OF BULK AT MOST 1048576: true; the input reads as it did. -/
def natGcdUptoRow : OpenClaim := { program := "ytdbocgemikkgiaa", sum := "65acb51dd6ea155a6f5768897bf1e1ecf991fe5a7c9224aae3e1ea8068a048af", func := "bspregion/bspregionlaw01.NatGcd", spec := "natGcd", named := ["math/bits.overflowError"], apart := false, narrowed := true }
def NatGcdUptoSaid : Prop := natGcdUptoRow.holds Try.pinned (OpenSpec.upto natGcdSpec)

/-- 'bspregionlaw02.IntegerDivides', WHERE WHAT IT READS IS OF BULK AT MOST 1048576: true; the input reads as it did. -/
def integerDividesUptoRow : OpenClaim := { program := "ytdbocgemikkgiaa", sum := "65acb51dd6ea155a6f5768897bf1e1ecf991fe5a7c9224aae3e1ea8068a048af", func := "bspregion/bspregionlaw02.IntegerDivides", spec := "integerDivides", apart := false, narrowed := true }
def IntegerDividesUptoSaid : Prop := integerDividesUptoRow.holds Try.pinned (OpenSpec.upto integerDividesSpec)

/-- 'bspregionlaw02.IntegerRing', WHERE WHAT IT READS IS OF BULK AT MOST 1048576: true; the input reads as it did. -/
def integerRingUptoRow : OpenClaim := { program := "ytdbocgemikkgiaa", sum := "65acb51dd6ea155a6f5768897bf1e1ecf991fe5a7c9224aae3e1ea8068a048af", func := "bspregion/bspregionlaw02.IntegerRing", spec := "integerRing", apart := false, narrowed := true }
def IntegerRingUptoSaid : Prop := integerRingUptoRow.holds Try.pinned (OpenSpec.upto integerRingSpec)

/-- 'bspregionlaw02.IntegerForms', WHERE WHAT IT READS IS OF BULK AT MOST 1048576: true; the input reads as it did. -/
def integerFormsUptoRow : OpenClaim := { program := "ytdbocgemikkgiaa", sum := "65acb51dd6ea155a6f5768897bf1e1ecf991fe5a7c9224aae3e1ea8068a048af", func := "bspregion/bspregionlaw02.IntegerForms", spec := "integerForms", apart := false, narrowed := true }
def IntegerFormsUptoSaid : Prop := integerFormsUptoRow.holds Try.pinned (OpenSpec.upto integerFormsSpec)

/-- 'bspregionlaw02.IntegerComputes', WHERE WHAT IT READS IS OF BULK AT MOST 1048576: true; the input reads as it did. -/
def integerComputesUptoRow : OpenClaim := { program := "ytdbocgemikkgiaa", sum := "65acb51dd6ea155a6f5768897bf1e1ecf991fe5a7c9224aae3e1ea8068a048af", func := "bspregion/bspregionlaw02.IntegerComputes", spec := "integerComputes", named := ["math/bits.overflowError"], apart := false, narrowed := true }
def IntegerComputesUptoSaid : Prop := integerComputesUptoRow.holds Try.pinned (OpenSpec.upto integerComputesSpec)

end Rows
end Go.Proofs.Ytdbocgemikkgiaa
