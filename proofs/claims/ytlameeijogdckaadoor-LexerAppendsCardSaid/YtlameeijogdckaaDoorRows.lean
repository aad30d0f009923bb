/-
  NARROWER THAN 'FOR EVERY INPUT', by the rows' own cells (each row's printed sentence says how): LexerTokens: laid · LexerJoins: laid · LexerBytes: laid · LexerAppends: laid.
  DERIVED. THE GIVEN ROWS OF THIS SEAT. 4 by the template 'for every input the law returns true; each argument reads behind the call as it read before'; 0 by the template 'total and deterministic' (their statements: YtlameeijogdckaaDoorTotals.lean).
  GIVEN WITH THE SEED: the statements are not yours to turn. If you find one false, say at which input.
  Laid BY PROGRAM, IN A SANDBOX (cutbox-rows.mjs): the forced cells as the released guide's own fill.sh prints them over the translation 9b91562f82a641c2… (all of the seat's roots in one cut). By AI agents, Wed Nov 11 2026. No macro, syntax, notation, axiom, sorry.
-/
import Derived.Test.YtlameeijogdckaaDoorChecked
import GoSem.Claim
import GoSem.ClaimJoined
import GoSem.ClaimMapViews
import Derived.JoinedTies
import Derived.KernelRfl
namespace Go.Proofs.YtlameeijogdckaaDoor
/- THE CELL 'sum', in the pinned program and in every row, IS THE sha256 OF THE DUMP (.gsa) THAT YtlameeijogdckaaDoorProg.lean LOADS. Nothing in Lean hashes anything: it is a label: what it is worth is what the hold of that sum in a sandbox is worth. -/
noncomputable def Tryd.pinned : Pinned := { name := "ytlameeijogdckaadoor", sum := "9b91562f82a641c2a1d2e821641d2ee667bdcad0742a1e69db372117c3726a46", checked := Tryd.checked }
namespace Rows
def none {H : Type} : Left H := { results := [], args := [] }

/- WHAT THE LISTED PACKAGE-LEVEL VARIABLES READ AS WHEN THE CALL BEGINS. Each datum BY PROGRAM (the guide's laid-datum.mjs) off the statement by which the dump's own 'gosem.cut.vars' lays the variable. In a bare row this is a premise. The card (YtlameeijogdckaaDoorCards.lean) ties it to the program's text. -/
def laid_errors_errorType {H : Type} : DataW H := .iface "internal/reflectlite.rtype" (.agg [.ptr (.lit (.string [101, 114, 114, 111, 114]))])
def laid_bspregion_api_ErrInvalid {H : Type} : DataW H := .iface "*errors.errorString" (.ptr (.agg [.lit (.string [105, 110, 118, 97, 108, 105, 100, 32, 118, 97, 108, 117, 101])]))
def laid_bspregion_api_ErrSyntax {H : Type} : DataW H := .iface "*errors.errorString" (.ptr (.agg [.lit (.string [115, 121, 110, 116, 97, 120, 32, 101, 114, 114, 111, 114])]))
def laid_bspregion_api_ErrRing {H : Type} : DataW H := .iface "*errors.errorString" (.ptr (.agg [.lit (.string [98, 97, 100, 32, 114, 105, 110, 103])]))
def laid_bspregion_api_ErrName {H : Type} : DataW H := .iface "*errors.errorString" (.ptr (.agg [.lit (.string [117, 110, 107, 110, 111, 119, 110, 32, 110, 97, 109, 101])]))
def laid_bspregion_api_ErrTwice {H : Type} : DataW H := .iface "*errors.errorString" (.ptr (.agg [.lit (.string [110, 97, 109, 101, 32, 100, 101, 102, 105, 110, 101, 100, 32, 116, 119, 105, 99, 101])]))
def laid_bspregion_api_ErrBudget {H : Type} : DataW H := .iface "*errors.errorString" (.ptr (.agg [.lit (.string [98, 117, 100, 103, 101, 116, 32, 101, 120, 99, 101, 101, 100, 101, 100])]))
def laid_bspregion_api_ErrLimit {H : Type} : DataW H := .iface "*errors.errorString" (.ptr (.agg [.lit (.string [108, 105, 109, 105, 116, 32, 101, 120, 99, 101, 101, 100, 101, 100])]))
def laid_bspregion_api_ErrRange {H : Type} : DataW H := .iface "*errors.errorString" (.ptr (.agg [.lit (.string [111, 117, 116, 32, 111, 102, 32, 114, 97, 110, 103, 101])]))

/-- 'bspregionlaw11.LexerTokens': WHATEVER THE INPUT: true; the input reads as it did. -/
def lexerTokensSpec : ChangeSpec := { name := "lexerTokens", fn := fun _ => fun
  | [d] => { results := [.lit (.bool true)], args := [d] }
  | _ => none }
def lexerTokensRow : OpenClaim := { program := "ytlameeijogdckaadoor", sum := "9b91562f82a641c2a1d2e821641d2ee667bdcad0742a1e69db372117c3726a46", func := "bspregion/bspregionlaw11.LexerTokens", spec := "lexerTokens", inPlace := ["internal/bytealg.IndexByteString", "internal/reflectlite.ValueOf", "(internal/reflectlite.Value).Type", "(internal/reflectlite.Value).IsNil", "internal/reflectlite.TypeOf", "(internal/reflectlite.Value).Elem", "(internal/reflectlite.Value).Set"], unfollowed := true, recurses := true, named := ["bspregion/api.ErrSyntax", "bspregion/api.ErrLimit", "errors.errorType", "bspregion/api.ErrRange", "bspregion/api.ErrRing", "bspregion/api.ErrName", "bspregion/api.ErrTwice", "bspregion/api.ErrBudget", "bspregion/api.ErrInvalid"], apart := false, laid := [("errors.errorType", laid_errors_errorType), ("bspregion/api.ErrInvalid", laid_bspregion_api_ErrInvalid), ("bspregion/api.ErrSyntax", laid_bspregion_api_ErrSyntax), ("bspregion/api.ErrRing", laid_bspregion_api_ErrRing), ("bspregion/api.ErrName", laid_bspregion_api_ErrName), ("bspregion/api.ErrTwice", laid_bspregion_api_ErrTwice), ("bspregion/api.ErrBudget", laid_bspregion_api_ErrBudget), ("bspregion/api.ErrLimit", laid_bspregion_api_ErrLimit), ("bspregion/api.ErrRange", laid_bspregion_api_ErrRange)] }
def LexerTokensSaid : Prop := lexerTokensRow.holds Tryd.pinned (OpenSpec.ofChange lexerTokensSpec)

/-- ITS FALSE NEIGHBOUR: 'it returns false'. Refute it at one input. -/
def lexerTokensWrong : ChangeSpec := { name := "lexerTokens", fn := fun _ => fun
  | [d] => { results := [.lit (.bool false)], args := [d] }
  | _ => none }
def LexerTokensWrongFalsely : Prop := lexerTokensRow.holds Tryd.pinned (OpenSpec.ofChange lexerTokensWrong)

/-- 'bspregionlaw11.LexerJoins': WHATEVER THE INPUT: true; the input reads as it did. -/
def lexerJoinsSpec : ChangeSpec := { name := "lexerJoins", fn := fun _ => fun
  | [d] => { results := [.lit (.bool true)], args := [d] }
  | _ => none }
def lexerJoinsRow : OpenClaim := { program := "ytlameeijogdckaadoor", sum := "9b91562f82a641c2a1d2e821641d2ee667bdcad0742a1e69db372117c3726a46", func := "bspregion/bspregionlaw11.LexerJoins", spec := "lexerJoins", inPlace := ["internal/bytealg.IndexByteString", "internal/reflectlite.ValueOf", "(internal/reflectlite.Value).Type", "(internal/reflectlite.Value).IsNil", "internal/reflectlite.TypeOf", "(internal/reflectlite.Value).Elem", "(internal/reflectlite.Value).Set"], unfollowed := true, recurses := true, named := ["bspregion/api.ErrSyntax", "bspregion/api.ErrLimit", "errors.errorType"], apart := false, laid := [("errors.errorType", laid_errors_errorType), ("bspregion/api.ErrSyntax", laid_bspregion_api_ErrSyntax), ("bspregion/api.ErrLimit", laid_bspregion_api_ErrLimit)] }
def LexerJoinsSaid : Prop := lexerJoinsRow.holds Tryd.pinned (OpenSpec.ofChange lexerJoinsSpec)

/-- ITS FALSE NEIGHBOUR: 'it returns false'. Refute it at one input. -/
def lexerJoinsWrong : ChangeSpec := { name := "lexerJoins", fn := fun _ => fun
  | [d] => { results := [.lit (.bool false)], args := [d] }
  | _ => none }
def LexerJoinsWrongFalsely : Prop := lexerJoinsRow.holds Tryd.pinned (OpenSpec.ofChange lexerJoinsWrong)

/-- 'bspregionlaw11.LexerBytes': WHATEVER THE INPUT: true; the input reads as it did. -/
def lexerBytesSpec : ChangeSpec := { name := "lexerBytes", fn := fun _ => fun
  | [d] => { results := [.lit (.bool true)], args := [d] }
  | _ => none }
def lexerBytesRow : OpenClaim := { program := "ytlameeijogdckaadoor", sum := "9b91562f82a641c2a1d2e821641d2ee667bdcad0742a1e69db372117c3726a46", func := "bspregion/bspregionlaw11.LexerBytes", spec := "lexerBytes", inPlace := ["internal/bytealg.IndexByteString", "internal/reflectlite.ValueOf", "(internal/reflectlite.Value).Type", "(internal/reflectlite.Value).IsNil", "internal/reflectlite.TypeOf", "(internal/reflectlite.Value).Elem", "(internal/reflectlite.Value).Set"], unfollowed := true, recurses := true, named := ["bspregion/api.ErrSyntax", "bspregion/api.ErrLimit", "errors.errorType"], apart := false, laid := [("errors.errorType", laid_errors_errorType), ("bspregion/api.ErrSyntax", laid_bspregion_api_ErrSyntax), ("bspregion/api.ErrLimit", laid_bspregion_api_ErrLimit)] }
def LexerBytesSaid : Prop := lexerBytesRow.holds Tryd.pinned (OpenSpec.ofChange lexerBytesSpec)

/-- ITS FALSE NEIGHBOUR: 'it returns false'. Refute it at one input. -/
def lexerBytesWrong : ChangeSpec := { name := "lexerBytes", fn := fun _ => fun
  | [d] => { results := [.lit (.bool false)], args := [d] }
  | _ => none }
def LexerBytesWrongFalsely : Prop := lexerBytesRow.holds Tryd.pinned (OpenSpec.ofChange lexerBytesWrong)

/-- 'bspregionlaw11.LexerAppends': WHATEVER THE INPUT: true; the input reads as it did. -/
def lexerAppendsSpec : ChangeSpec := { name := "lexerAppends", fn := fun _ => fun
  | [d1, d2] => { results := [.lit (.bool true)], args := [d1, d2] }
  | _ => none }
def lexerAppendsRow : OpenClaim := { program := "ytlameeijogdckaadoor", sum := "9b91562f82a641c2a1d2e821641d2ee667bdcad0742a1e69db372117c3726a46", func := "bspregion/bspregionlaw11.LexerAppends", spec := "lexerAppends", inPlace := ["internal/bytealg.IndexByteString", "internal/reflectlite.ValueOf", "(internal/reflectlite.Value).Type", "(internal/reflectlite.Value).IsNil", "internal/reflectlite.TypeOf", "(internal/reflectlite.Value).Elem", "(internal/reflectlite.Value).Set", "internal/bytealg.CountString", "internal/bytealg.IndexString"], unfollowed := true, recurses := true, named := ["bspregion/api.ErrSyntax", "bspregion/api.ErrLimit", "errors.errorType", "internal/bytealg.MaxLen"], apart := false, laid := [("errors.errorType", laid_errors_errorType), ("bspregion/api.ErrSyntax", laid_bspregion_api_ErrSyntax), ("bspregion/api.ErrLimit", laid_bspregion_api_ErrLimit)] }
def LexerAppendsSaid : Prop := lexerAppendsRow.holds Tryd.pinned (OpenSpec.ofChange lexerAppendsSpec)

/-- ITS FALSE NEIGHBOUR: 'it returns false'. Refute it at one input. -/
def lexerAppendsWrong : ChangeSpec := { name := "lexerAppends", fn := fun _ => fun
  | [d1, d2] => { results := [.lit (.bool false)], args := [d1, d2] }
  | _ => none }
def LexerAppendsWrongFalsely : Prop := lexerAppendsRow.holds Tryd.pinned (OpenSpec.ofChange lexerAppendsWrong)

/- THE SECOND FORM. 'bulk': how many values and letters a reading holds, each counted each time it is reached (what is shared counts as often as it is met; a slice's spare places count too). A statement '..UptoSaid' is the law's where the arguments, and the package variables that the reading takes, are together of bulk at most 1048576: NARROWER than '..Said'. Prove '..Said' where nothing that the law and all that it calls make is longer than what came in: it says more and counts as full. Else prove '..UptoSaid'. A law counts once. -/
mutual
def uptoBulk {H : Type} : DataW H → Nat
  | .lit (.string bytes) => bytes.length + 1
  | .lit _ => 1
  | .nil => 1
  | .ptr d => uptoBulk d + 1
  | .slice elems spare => uptoBulkAll elems + uptoBulkAll spare + 1
  | .agg parts => uptoBulkAll parts + 1
  | .iface _ d => uptoBulk d + 1
  | .map entries => uptoBulkEntries entries + 1
  | .held _ => 1
def uptoBulkAll {H : Type} : List (DataW H) → Nat
  | [] => 0
  | d :: r => uptoBulk d + uptoBulkAll r
def uptoBulkEntries {H : Type} : List (Lit × DataW H) → Nat
  | [] => 0
  | x :: r => uptoBulkEntry x + uptoBulkEntries r
def uptoBulkEntry {H : Type} : Lit × DataW H → Nat
  | (.string bytes, d) => bytes.length + uptoBulk d + 1
  | (_, d) => uptoBulk d + 1
 end
def uptoSmall : (H : Type) → List (DataW H) → Bool := fun _ ds => decide (uptoBulkAll ds ≤ 1048576)
def OpenSpec.upto (s : _root_.Go.ChangeSpec) : _root_.Go.OpenSpec := { _root_.Go.OpenSpec.ofChange s with cond := some uptoSmall }

/-- 'bspregionlaw11.LexerTokens', WHERE WHAT IT READS IS OF BULK AT MOST 1048576: true; the input reads as it did. -/
def lexerTokensUptoRow : OpenClaim := { program := "ytlameeijogdckaadoor", sum := "9b91562f82a641c2a1d2e821641d2ee667bdcad0742a1e69db372117c3726a46", func := "bspregion/bspregionlaw11.LexerTokens", spec := "lexerTokens", inPlace := ["internal/bytealg.IndexByteString", "internal/reflectlite.ValueOf", "(internal/reflectlite.Value).Type", "(internal/reflectlite.Value).IsNil", "internal/reflectlite.TypeOf", "(internal/reflectlite.Value).Elem", "(internal/reflectlite.Value).Set"], unfollowed := true, recurses := true, named := ["bspregion/api.ErrSyntax", "bspregion/api.ErrLimit", "errors.errorType", "bspregion/api.ErrRange", "bspregion/api.ErrRing", "bspregion/api.ErrName", "bspregion/api.ErrTwice", "bspregion/api.ErrBudget", "bspregion/api.ErrInvalid"], apart := false, laid := [("errors.errorType", laid_errors_errorType), ("bspregion/api.ErrInvalid", laid_bspregion_api_ErrInvalid), ("bspregion/api.ErrSyntax", laid_bspregion_api_ErrSyntax), ("bspregion/api.ErrRing", laid_bspregion_api_ErrRing), ("bspregion/api.ErrName", laid_bspregion_api_ErrName), ("bspregion/api.ErrTwice", laid_bspregion_api_ErrTwice), ("bspregion/api.ErrBudget", laid_bspregion_api_ErrBudget), ("bspregion/api.ErrLimit", laid_bspregion_api_ErrLimit), ("bspregion/api.ErrRange", laid_bspregion_api_ErrRange)], narrowed := true }
def LexerTokensUptoSaid : Prop := lexerTokensUptoRow.holds Tryd.pinned (OpenSpec.upto lexerTokensSpec)

/-- 'bspregionlaw11.LexerJoins', WHERE WHAT IT READS IS OF BULK AT MOST 1048576: true; the input reads as it did. -/
def lexerJoinsUptoRow : OpenClaim := { program := "ytlameeijogdckaadoor", sum := "9b91562f82a641c2a1d2e821641d2ee667bdcad0742a1e69db372117c3726a46", func := "bspregion/bspregionlaw11.LexerJoins", spec := "lexerJoins", inPlace := ["internal/bytealg.IndexByteString", "internal/reflectlite.ValueOf", "(internal/reflectlite.Value).Type", "(internal/reflectlite.Value).IsNil", "internal/reflectlite.TypeOf", "(internal/reflectlite.Value).Elem", "(internal/reflectlite.Value).Set"], unfollowed := true, recurses := true, named := ["bspregion/api.ErrSyntax", "bspregion/api.ErrLimit", "errors.errorType"], apart := false, laid := [("errors.errorType", laid_errors_errorType), ("bspregion/api.ErrSyntax", laid_bspregion_api_ErrSyntax), ("bspregion/api.ErrLimit", laid_bspregion_api_ErrLimit)], narrowed := true }
def LexerJoinsUptoSaid : Prop := lexerJoinsUptoRow.holds Tryd.pinned (OpenSpec.upto lexerJoinsSpec)

/-- 'bspregionlaw11.LexerBytes', WHERE WHAT IT READS IS OF BULK AT MOST 1048576: true; the input reads as it did. -/
def lexerBytesUptoRow : OpenClaim := { program := "ytlameeijogdckaadoor", sum := "9b91562f82a641c2a1d2e821641d2ee667bdcad0742a1e69db372117c3726a46", func := "bspregion/bspregionlaw11.LexerBytes", spec := "lexerBytes", inPlace := ["internal/bytealg.IndexByteString", "internal/reflectlite.ValueOf", "(internal/reflectlite.Value).Type", "(internal/reflectlite.Value).IsNil", "internal/reflectlite.TypeOf", "(internal/reflectlite.Value).Elem", "(internal/reflectlite.Value).Set"], unfollowed := true, recurses := true, named := ["bspregion/api.ErrSyntax", "bspregion/api.ErrLimit", "errors.errorType"], apart := false, laid := [("errors.errorType", laid_errors_errorType), ("bspregion/api.ErrSyntax", laid_bspregion_api_ErrSyntax), ("bspregion/api.ErrLimit", laid_bspregion_api_ErrLimit)], narrowed := true }
def LexerBytesUptoSaid : Prop := lexerBytesUptoRow.holds Tryd.pinned (OpenSpec.upto lexerBytesSpec)

/-- 'bspregionlaw11.LexerAppends', WHERE WHAT IT READS IS OF BULK AT MOST 1048576: true; the input reads as it did. -/
def lexerAppendsUptoRow : OpenClaim := { program := "ytlameeijogdckaadoor", sum := "9b91562f82a641c2a1d2e821641d2ee667bdcad0742a1e69db372117c3726a46", func := "bspregion/bspregionlaw11.LexerAppends", spec := "lexerAppends", inPlace := ["internal/bytealg.IndexByteString", "internal/reflectlite.ValueOf", "(internal/reflectlite.Value).Type", "(internal/reflectlite.Value).IsNil", "internal/reflectlite.TypeOf", "(internal/reflectlite.Value).Elem", "(internal/reflectlite.Value).Set", "internal/bytealg.CountString", "internal/bytealg.IndexString"], unfollowed := true, recurses := true, named := ["bspregion/api.ErrSyntax", "bspregion/api.ErrLimit", "errors.errorType", "internal/bytealg.MaxLen"], apart := false, laid := [("errors.errorType", laid_errors_errorType), ("bspregion/api.ErrSyntax", laid_bspregion_api_ErrSyntax), ("bspregion/api.ErrLimit", laid_bspregion_api_ErrLimit)], narrowed := true }
def LexerAppendsUptoSaid : Prop := lexerAppendsUptoRow.holds Tryd.pinned (OpenSpec.upto lexerAppendsSpec)

end Rows
end Go.Proofs.YtlameeijogdckaaDoor
