/-
  No cell of these rows narrows 'for every input' (looked for: loops, veiled, ifaces, maps, wideKeys, modest, calm, conditions, laid).
  DERIVED. THE GIVEN ROWS OF THIS SEAT. 3 by the template 'for every input the law returns true; each argument reads behind the call as it read before'; 0 by the template 'total and deterministic' (their statements: YtaglhadfhmojaaaTotals.lean).
  GIVEN WITH THE SEED: the statements are not yours to turn. If you find one false, say at which input.
  Laid BY PROGRAM, IN A SANDBOX (cutbox-rows.mjs): the forced cells as the released guide's own fill.sh prints them over the translation 622c46a4bf708ed0… (all of the seat's roots in one cut). By AI agents, Wed Nov 11 2026. No macro, syntax, notation, axiom, sorry.
-/
import Derived.Test.YtaglhadfhmojaaaChecked
import GoSem.Claim
import GoSem.ClaimJoined
import GoSem.ClaimMapViews
import Derived.JoinedTies
import Derived.KernelRfl
namespace Go.Proofs.Ytaglhadfhmojaaa
/- THE CELL 'sum', in the pinned program and in every row, IS THE sha256 OF THE DUMP (.gsa) THAT YtaglhadfhmojaaaProg.lean LOADS. Nothing in Lean hashes anything: it is a label: what it is worth is what the hold of that sum in a sandbox is worth. -/
noncomputable def Try.pinned : Pinned := { name := "ytaglhadfhmojaaa", sum := "622c46a4bf708ed03aec656531738fccc46a0427c40a18b8125667057c995bcd", checked := Try.checked }
namespace Rows
def none {H : Type} : Left H := { results := [], args := [] }

/-- 'bspregionlaw02.IntegerForms': WHATEVER THE INPUT: true; the input reads as it did. -/
def integerFormsSpec : ChangeSpec := { name := "integerForms", fn := fun _ => fun
  | [d1, d2, d3] => { results := [.lit (.bool true)], args := [d1, d2, d3] }
  | _ => none }
def integerFormsRow : OpenClaim := { program := "ytaglhadfhmojaaa", sum := "622c46a4bf708ed03aec656531738fccc46a0427c40a18b8125667057c995bcd", func := "bspregion/bspregionlaw02.IntegerForms", spec := "integerForms", apart := false }
def IntegerFormsSaid : Prop := integerFormsRow.holds Try.pinned (OpenSpec.ofChange integerFormsSpec)

/-- ITS FALSE NEIGHBOUR: 'it returns false'. Refute it at one input. -/
def integerFormsWrong : ChangeSpec := { name := "integerForms", fn := fun _ => fun
  | [d1, d2, d3] => { results := [.lit (.bool false)], args := [d1, d2, d3] }
  | _ => none }
def IntegerFormsWrongFalsely : Prop := integerFormsRow.holds Try.pinned (OpenSpec.ofChange integerFormsWrong)

/-- 'bspregionlaw02.IntegerComputes': WHATEVER THE INPUT: true; the input reads as it did. -/
def integerComputesSpec : ChangeSpec := { name := "integerComputes", fn := fun _ => fun
  | [d] => { results := [.lit (.bool true)], args := [d] }
  | _ => none }
def integerComputesRow : OpenClaim := { program := "ytaglhadfhmojaaa", sum := "622c46a4bf708ed03aec656531738fccc46a0427c40a18b8125667057c995bcd", func := "bspregion/bspregionlaw02.IntegerComputes", spec := "integerComputes", named := ["math/bits.overflowError"], apart := false }
def IntegerComputesSaid : Prop := integerComputesRow.holds Try.pinned (OpenSpec.ofChange integerComputesSpec)

/-- ITS FALSE NEIGHBOUR: 'it returns false'. Refute it at one input. -/
def integerComputesWrong : ChangeSpec := { name := "integerComputes", fn := fun _ => fun
  | [d] => { results := [.lit (.bool false)], args := [d] }
  | _ => none }
def IntegerComputesWrongFalsely : Prop := integerComputesRow.holds Try.pinned (OpenSpec.ofChange integerComputesWrong)

/-- 'bspregionlaw04.PointTurns': WHATEVER THE INPUT: true; the input reads as it did. -/
def pointTurnsSpec : ChangeSpec := { name := "pointTurns", fn := fun _ => fun
  | [d] => { results := [.lit (.bool true)], args := [d] }
  | _ => none }
def pointTurnsRow : OpenClaim := { program := "ytaglhadfhmojaaa", sum := "622c46a4bf708ed03aec656531738fccc46a0427c40a18b8125667057c995bcd", func := "bspregion/bspregionlaw04.PointTurns", spec := "pointTurns", named := ["math/bits.overflowError"], apart := false }
def PointTurnsSaid : Prop := pointTurnsRow.holds Try.pinned (OpenSpec.ofChange pointTurnsSpec)

/-- ITS FALSE NEIGHBOUR: 'it returns false'. Refute it at one input. -/
def pointTurnsWrong : ChangeSpec := { name := "pointTurns", fn := fun _ => fun
  | [d] => { results := [.lit (.bool false)], args := [d] }
  | _ => none }
def PointTurnsWrongFalsely : Prop := pointTurnsRow.holds Try.pinned (OpenSpec.ofChange pointTurnsWrong)

/- THE SECOND FORM. 'bulk': how many values and letters a reading holds, each counted each time it is reached (what is shared counts as often as it is met; a slice's spare places count too). A statement '..UptoSaid' is the law's where the arguments, and the package variables that the reading takes, are together of bulk at most 1048576: NARROWER than '..Said'. Prove '..Said' where nothing that the law and all that it calls make is longer than what came in: it says more and counts as full. Else prove '..UptoSaid'. A law counts once. -/
mutual
def uptoBulk {H : Type} : DataW H → Nat
  | .lit (.string bytes) => bytes.length + 1
  | .lit _ => 1
  | .nil => 1
  | .ptr d => uptoBulk d + 1
  | .slice elems spare => uptoBulkAll elems + uptoBulkAll spare + 1
  | .agg parts => uptoBulkAll parts + 1
  | .iface _ d => uptoBulk d + 1
  | .map entries => uptoBulkEntries entries + 1
  | .held _ => 1
def uptoBulkAll {H : Type} : List (DataW H) → Nat
  | [] => 0
  | d :: r => uptoBulk d + uptoBulkAll r
def uptoBulkEntries {H : Type} : List (Lit × DataW H) → Nat
  | [] => 0
  | x :: r => uptoBulkEntry x + uptoBulkEntries r
def uptoBulkEntry {H : Type} : Lit × DataW H → Nat
  | (.string bytes, d) => bytes.length + uptoBulk d + 1
  | (_, d) => uptoBulk d + 1
 end
def uptoSmall : (H : Type) → List (DataW H) → Bool := fun _ ds => decide (uptoBulkAll ds ≤ 1048576)
def OpenSpec.upto (s : _root_.Go.ChangeSpec) : _root_.Go.OpenSpec := { _root_.Go.OpenSpec.ofChange s with cond := some uptoSmall }

/-- 'bspregionlaw02.IntegerForms', WHERE WHAT IT READS IS OF BULK AT MOST 1048576: true; the input reads as it did. -/
def integerFormsUptoRow : OpenClaim := { program := "ytaglhadfhmojaaa", sum := "622c46a4bf708ed03aec656531738fccc46a0427c40a18b8125667057c995bcd", func := "bspregion/bspregionlaw02.IntegerForms", spec := "integerForms", apart := false, narrowed := true }
def IntegerFormsUptoSaid : Prop := integerFormsUptoRow.holds Try.pinned (OpenSpec.upto integerFormsSpec)

/-- 'bspregionlaw02.IntegerComputes', WHERE WHAT IT READS IS OF BULK AT MOST 1048576: true; the input reads as it did. -/
def integerComputesUptoRow : OpenClaim := { program := "ytaglhadfhmojaaa", sum := "622c46a4bf708ed03aec656531738fccc46a0427c40a18b8125667057c995bcd", func := "bspregion/bspregionlaw02.IntegerComputes", spec := "integerComputes", named := ["math/bits.overflowError"], apart := false, narrowed := true }
def IntegerComputesUptoSaid : Prop := integerComputesUptoRow.holds Try.pinned (OpenSpec.upto integerComputesSpec)

/-- 'bspregionlaw04.PointTurns', WHERE WHAT IT READS IS OF BULK AT MOST 1048576: true; the input reads as it did. -/
def pointTurnsUptoRow : OpenClaim := { program := "ytaglhadfhmojaaa", sum := "622c46a4bf708ed03aec656531738fccc46a0427c40a18b8125667057c995bcd", func := "bspregion/bspregionlaw04.PointTurns", spec := "pointTurns", named := ["math/bits.overflowError"], apart := false, narrowed := true }
def PointTurnsUptoSaid : Prop := pointTurnsUptoRow.holds Try.pinned (OpenSpec.upto pointTurnsSpec)

end Rows
end Go.Proofs.Ytaglhadfhmojaaa
