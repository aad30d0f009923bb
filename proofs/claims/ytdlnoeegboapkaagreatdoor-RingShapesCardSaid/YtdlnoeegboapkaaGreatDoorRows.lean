/-
  NARROWER THAN 'FOR EVERY INPUT', by the rows' own cells (each row's printed sentence says how): PointTexts: laid · RingLimit: laid · RingOrders: laid · RingComputes: laid · RingShapes: laid · RingChecks: laid · RingInvariants: laid.
  DERIVED. THE GIVEN ROWS OF THIS SEAT. 7 by the template 'for every input the law returns true; each argument reads behind the call as it read before'; 0 by the template 'total and deterministic' (their statements: YtdlnoeegboapkaaGreatDoorTotals.lean).
  GIVEN WITH THE SEED: the statements are not yours to turn. If you find one false, say at which input.
  Laid BY PROGRAM, IN A SANDBOX (cutbox-rows.mjs): the forced cells as the released guide's own fill.sh prints them over the translation 6b3d61b2ed642bef… (all of the seat's roots in one cut). By AI agents, Wed Nov 11 2026. No macro, syntax, notation, axiom, sorry.
-/
import Derived.Test.YtdlnoeegboapkaaGreatDoorChecked
import GoSem.Claim
import GoSem.ClaimJoined
import GoSem.ClaimMapViews
import Derived.JoinedTies
import Derived.KernelRfl
namespace Go.Proofs.YtdlnoeegboapkaaGreatDoor
/- THE CELL 'sum', in the pinned program and in every row, IS THE sha256 OF THE DUMP (.gsa) THAT YtdlnoeegboapkaaGreatDoorProg.lean LOADS. Nothing in Lean hashes anything: it is a label: what it is worth is what the hold of that sum in a sandbox is worth. -/
noncomputable def Tryz.pinned : Pinned := { name := "ytdlnoeegboapkaagreatdoor", sum := "6b3d61b2ed642bef5931f654663d467f32e08022b3642c9038ae6dca3409cf44", checked := Tryz.checked }
namespace Rows
def none {H : Type} : Left H := { results := [], args := [] }

/- WHAT THE LISTED PACKAGE-LEVEL VARIABLES READ AS WHEN THE CALL BEGINS. Each datum BY PROGRAM (the guide's laid-datum.mjs) off the statement by which the dump's own 'gosem.cut.vars' lays the variable. In a bare row this is a premise. The card (YtdlnoeegboapkaaGreatDoorCards.lean) ties it to the program's text. -/
def laid_bspregion_api_ErrSyntax {H : Type} : DataW H := .iface "*errors.errorString" (.ptr (.agg [.lit (.string [115, 121, 110, 116, 97, 120, 32, 101, 114, 114, 111, 114])]))
def laid_bspregion_api_ErrLimit {H : Type} : DataW H := .iface "*errors.errorString" (.ptr (.agg [.lit (.string [108, 105, 109, 105, 116, 32, 101, 120, 99, 101, 101, 100, 101, 100])]))
def laid_bspregion_api_ErrRange {H : Type} : DataW H := .iface "*errors.errorString" (.ptr (.agg [.lit (.string [111, 117, 116, 32, 111, 102, 32, 114, 97, 110, 103, 101])]))
def laid_math_bits_deBruijn32tab {H : Type} : DataW H := .agg [.lit (.int .u8 0), .lit (.int .u8 1), .lit (.int .u8 28), .lit (.int .u8 2), .lit (.int .u8 29), .lit (.int .u8 14), .lit (.int .u8 24), .lit (.int .u8 3), .lit (.int .u8 30), .lit (.int .u8 22), .lit (.int .u8 20), .lit (.int .u8 15), .lit (.int .u8 25), .lit (.int .u8 17), .lit (.int .u8 4), .lit (.int .u8 8), .lit (.int .u8 31), .lit (.int .u8 27), .lit (.int .u8 13), .lit (.int .u8 23), .lit (.int .u8 21), .lit (.int .u8 19), .lit (.int .u8 16), .lit (.int .u8 7), .lit (.int .u8 26), .lit (.int .u8 12), .lit (.int .u8 18), .lit (.int .u8 6), .lit (.int .u8 11), .lit (.int .u8 5), .lit (.int .u8 10), .lit (.int .u8 9)]
def laid_math_bits_deBruijn64tab {H : Type} : DataW H := .agg [.lit (.int .u8 0), .lit (.int .u8 1), .lit (.int .u8 56), .lit (.int .u8 2), .lit (.int .u8 57), .lit (.int .u8 49), .lit (.int .u8 28), .lit (.int .u8 3), .lit (.int .u8 61), .lit (.int .u8 58), .lit (.int .u8 42), .lit (.int .u8 50), .lit (.int .u8 38), .lit (.int .u8 29), .lit (.int .u8 17), .lit (.int .u8 4), .lit (.int .u8 62), .lit (.int .u8 47), .lit (.int .u8 59), .lit (.int .u8 36), .lit (.int .u8 45), .lit (.int .u8 43), .lit (.int .u8 51), .lit (.int .u8 22), .lit (.int .u8 53), .lit (.int .u8 39), .lit (.int .u8 33), .lit (.int .u8 30), .lit (.int .u8 24), .lit (.int .u8 18), .lit (.int .u8 12), .lit (.int .u8 5), .lit (.int .u8 63), .lit (.int .u8 55), .lit (.int .u8 48), .lit (.int .u8 27), .lit (.int .u8 60), .lit (.int .u8 41), .lit (.int .u8 37), .lit (.int .u8 16), .lit (.int .u8 46), .lit (.int .u8 35), .lit (.int .u8 44), .lit (.int .u8 21), .lit (.int .u8 52), .lit (.int .u8 32), .lit (.int .u8 23), .lit (.int .u8 11), .lit (.int .u8 54), .lit (.int .u8 26), .lit (.int .u8 40), .lit (.int .u8 15), .lit (.int .u8 34), .lit (.int .u8 20), .lit (.int .u8 31), .lit (.int .u8 10), .lit (.int .u8 25), .lit (.int .u8 14), .lit (.int .u8 19), .lit (.int .u8 9), .lit (.int .u8 13), .lit (.int .u8 8), .lit (.int .u8 7), .lit (.int .u8 6)]
def laid_internal_strconv_uint64pow10 {H : Type} : DataW H := .agg [.lit (.int .u64 1), .lit (.int .u64 10), .lit (.int .u64 100), .lit (.int .u64 1000), .lit (.int .u64 10000), .lit (.int .u64 100000), .lit (.int .u64 1000000), .lit (.int .u64 10000000), .lit (.int .u64 100000000), .lit (.int .u64 1000000000), .lit (.int .u64 10000000000), .lit (.int .u64 100000000000), .lit (.int .u64 1000000000000), .lit (.int .u64 10000000000000), .lit (.int .u64 100000000000000), .lit (.int .u64 1000000000000000), .lit (.int .u64 10000000000000000), .lit (.int .u64 100000000000000000), .lit (.int .u64 1000000000000000000), .lit (.int .u64 10000000000000000000)]
def laid_bspregion_api_ErrInvalid {H : Type} : DataW H := .iface "*errors.errorString" (.ptr (.agg [.lit (.string [105, 110, 118, 97, 108, 105, 100, 32, 118, 97, 108, 117, 101])]))
def laid_bspregion_api_ErrRing {H : Type} : DataW H := .iface "*errors.errorString" (.ptr (.agg [.lit (.string [98, 97, 100, 32, 114, 105, 110, 103])]))

/-- 'bspregionlaw04.PointTexts': WHATEVER THE INPUT: true; the input reads as it did. -/
def pointTextsSpec : ChangeSpec := { name := "pointTexts", fn := fun _ => fun
  | [d1, d2] => { results := [.lit (.bool true)], args := [d1, d2] }
  | _ => none }
def pointTextsRow : OpenClaim := { program := "ytdlnoeegboapkaagreatdoor", sum := "6b3d61b2ed642bef5931f654663d467f32e08022b3642c9038ae6dca3409cf44", func := "bspregion/bspregionlaw04.PointTexts", spec := "pointTexts", inPlace := ["internal/bytealg.IndexByteString", "internal/bytealg.IndexString", "internal/reflectlite.TypeOf"], unfollowed := true, recurses := true, named := ["bspregion/api.ErrSyntax", "bspregion/api.ErrRange", "math/bits.overflowError", "internal/bytealg.MaxLen", "bspregion/api.ErrLimit"], apart := false, laid := [("bspregion/api.ErrSyntax", laid_bspregion_api_ErrSyntax), ("bspregion/api.ErrLimit", laid_bspregion_api_ErrLimit), ("bspregion/api.ErrRange", laid_bspregion_api_ErrRange)] }
def PointTextsSaid : Prop := pointTextsRow.holds Tryz.pinned (OpenSpec.ofChange pointTextsSpec)

/-- ITS FALSE NEIGHBOUR: 'it returns false'. Refute it at one input. -/
def pointTextsWrong : ChangeSpec := { name := "pointTexts", fn := fun _ => fun
  | [d1, d2] => { results := [.lit (.bool false)], args := [d1, d2] }
  | _ => none }
def PointTextsWrongFalsely : Prop := pointTextsRow.holds Tryz.pinned (OpenSpec.ofChange pointTextsWrong)

/-- 'bspregionlaw09.RingLimit': WHATEVER THE INPUT: true; the input reads as it did. -/
def ringLimitSpec : ChangeSpec := { name := "ringLimit", fn := fun _ => fun
  | [d] => { results := [.lit (.bool true)], args := [d] }
  | _ => none }
def ringLimitRow : OpenClaim := { program := "ytdlnoeegboapkaagreatdoor", sum := "6b3d61b2ed642bef5931f654663d467f32e08022b3642c9038ae6dca3409cf44", func := "bspregion/bspregionlaw09.RingLimit", spec := "ringLimit", inPlace := ["internal/reflectlite.TypeOf"], unfollowed := true, recurses := true, named := ["bspregion/api.ErrLimit", "bspregion/api.ErrInvalid", "bspregion/api.ErrRing", "internal/strconv.uint64pow10", "math/bits.deBruijn32tab", "math/bits.deBruijn64tab", "math/bits.overflowError"], apart := false, laid := [("math/bits.deBruijn32tab", laid_math_bits_deBruijn32tab), ("math/bits.deBruijn64tab", laid_math_bits_deBruijn64tab), ("internal/strconv.uint64pow10", laid_internal_strconv_uint64pow10), ("bspregion/api.ErrInvalid", laid_bspregion_api_ErrInvalid), ("bspregion/api.ErrRing", laid_bspregion_api_ErrRing), ("bspregion/api.ErrLimit", laid_bspregion_api_ErrLimit)] }
def RingLimitSaid : Prop := ringLimitRow.holds Tryz.pinned (OpenSpec.ofChange ringLimitSpec)

/-- ITS FALSE NEIGHBOUR: 'it returns false'. Refute it at one input. -/
def ringLimitWrong : ChangeSpec := { name := "ringLimit", fn := fun _ => fun
  | [d] => { results := [.lit (.bool false)], args := [d] }
  | _ => none }
def RingLimitWrongFalsely : Prop := ringLimitRow.holds Tryz.pinned (OpenSpec.ofChange ringLimitWrong)

/-- 'bspregionlaw09.RingOrders': WHATEVER THE INPUT: true; the input reads as it did. -/
def ringOrdersSpec : ChangeSpec := { name := "ringOrders", fn := fun _ => fun
  | [d] => { results := [.lit (.bool true)], args := [d] }
  | _ => none }
def ringOrdersRow : OpenClaim := { program := "ytdlnoeegboapkaagreatdoor", sum := "6b3d61b2ed642bef5931f654663d467f32e08022b3642c9038ae6dca3409cf44", func := "bspregion/bspregionlaw09.RingOrders", spec := "ringOrders", inPlace := ["internal/reflectlite.TypeOf"], unfollowed := true, recurses := true, named := ["math/bits.overflowError", "bspregion/api.ErrLimit", "bspregion/api.ErrInvalid", "bspregion/api.ErrRing", "internal/strconv.uint64pow10", "math/bits.deBruijn32tab", "math/bits.deBruijn64tab"], apart := false, laid := [("math/bits.deBruijn32tab", laid_math_bits_deBruijn32tab), ("math/bits.deBruijn64tab", laid_math_bits_deBruijn64tab), ("internal/strconv.uint64pow10", laid_internal_strconv_uint64pow10), ("bspregion/api.ErrInvalid", laid_bspregion_api_ErrInvalid), ("bspregion/api.ErrRing", laid_bspregion_api_ErrRing), ("bspregion/api.ErrLimit", laid_bspregion_api_ErrLimit)] }
def RingOrdersSaid : Prop := ringOrdersRow.holds Tryz.pinned (OpenSpec.ofChange ringOrdersSpec)

/-- ITS FALSE NEIGHBOUR: 'it returns false'. Refute it at one input. -/
def ringOrdersWrong : ChangeSpec := { name := "ringOrders", fn := fun _ => fun
  | [d] => { results := [.lit (.bool false)], args := [d] }
  | _ => none }
def RingOrdersWrongFalsely : Prop := ringOrdersRow.holds Tryz.pinned (OpenSpec.ofChange ringOrdersWrong)

/-- 'bspregionlaw09.RingComputes': WHATEVER THE INPUT: true; the input reads as it did. -/
def ringComputesSpec : ChangeSpec := { name := "ringComputes", fn := fun _ => fun
  | [d] => { results := [.lit (.bool true)], args := [d] }
  | _ => none }
def ringComputesRow : OpenClaim := { program := "ytdlnoeegboapkaagreatdoor", sum := "6b3d61b2ed642bef5931f654663d467f32e08022b3642c9038ae6dca3409cf44", func := "bspregion/bspregionlaw09.RingComputes", spec := "ringComputes", inPlace := ["internal/reflectlite.TypeOf"], unfollowed := true, recurses := true, named := ["math/bits.overflowError", "bspregion/api.ErrLimit", "bspregion/api.ErrInvalid", "bspregion/api.ErrRing", "internal/strconv.uint64pow10", "math/bits.deBruijn32tab", "math/bits.deBruijn64tab"], apart := false, laid := [("math/bits.deBruijn32tab", laid_math_bits_deBruijn32tab), ("math/bits.deBruijn64tab", laid_math_bits_deBruijn64tab), ("internal/strconv.uint64pow10", laid_internal_strconv_uint64pow10), ("bspregion/api.ErrInvalid", laid_bspregion_api_ErrInvalid), ("bspregion/api.ErrRing", laid_bspregion_api_ErrRing), ("bspregion/api.ErrLimit", laid_bspregion_api_ErrLimit)] }
def RingComputesSaid : Prop := ringComputesRow.holds Tryz.pinned (OpenSpec.ofChange ringComputesSpec)

/-- ITS FALSE NEIGHBOUR: 'it returns false'. Refute it at one input. -/
def ringComputesWrong : ChangeSpec := { name := "ringComputes", fn := fun _ => fun
  | [d] => { results := [.lit (.bool false)], args := [d] }
  | _ => none }
def RingComputesWrongFalsely : Prop := ringComputesRow.holds Tryz.pinned (OpenSpec.ofChange ringComputesWrong)

/-- 'bspregionlaw09.RingShapes': WHATEVER THE INPUT: true; the input reads as it did. -/
def ringShapesSpec : ChangeSpec := { name := "ringShapes", fn := fun _ => fun
  | [d] => { results := [.lit (.bool true)], args := [d] }
  | _ => none }
def ringShapesRow : OpenClaim := { program := "ytdlnoeegboapkaagreatdoor", sum := "6b3d61b2ed642bef5931f654663d467f32e08022b3642c9038ae6dca3409cf44", func := "bspregion/bspregionlaw09.RingShapes", spec := "ringShapes", inPlace := ["internal/reflectlite.TypeOf"], unfollowed := true, recurses := true, named := ["math/bits.overflowError", "bspregion/api.ErrLimit", "bspregion/api.ErrInvalid", "bspregion/api.ErrRing", "internal/strconv.uint64pow10", "math/bits.deBruijn32tab", "math/bits.deBruijn64tab"], apart := false, laid := [("math/bits.deBruijn32tab", laid_math_bits_deBruijn32tab), ("math/bits.deBruijn64tab", laid_math_bits_deBruijn64tab), ("internal/strconv.uint64pow10", laid_internal_strconv_uint64pow10), ("bspregion/api.ErrInvalid", laid_bspregion_api_ErrInvalid), ("bspregion/api.ErrRing", laid_bspregion_api_ErrRing), ("bspregion/api.ErrLimit", laid_bspregion_api_ErrLimit)] }
def RingShapesSaid : Prop := ringShapesRow.holds Tryz.pinned (OpenSpec.ofChange ringShapesSpec)

/-- ITS FALSE NEIGHBOUR: 'it returns false'. Refute it at one input. -/
def ringShapesWrong : ChangeSpec := { name := "ringShapes", fn := fun _ => fun
  | [d] => { results := [.lit (.bool false)], args := [d] }
  | _ => none }
def RingShapesWrongFalsely : Prop := ringShapesRow.holds Tryz.pinned (OpenSpec.ofChange ringShapesWrong)

/-- 'bspregionlaw09.RingChecks': WHATEVER THE INPUT: true; the input reads as it did. -/
def ringChecksSpec : ChangeSpec := { name := "ringChecks", fn := fun _ => fun
  | [d] => { results := [.lit (.bool true)], args := [d] }
  | _ => none }
def ringChecksRow : OpenClaim := { program := "ytdlnoeegboapkaagreatdoor", sum := "6b3d61b2ed642bef5931f654663d467f32e08022b3642c9038ae6dca3409cf44", func := "bspregion/bspregionlaw09.RingChecks", spec := "ringChecks", inPlace := ["internal/reflectlite.TypeOf"], unfollowed := true, recurses := true, named := ["bspregion/api.ErrRing", "bspregion/api.ErrLimit", "bspregion/api.ErrInvalid", "internal/strconv.uint64pow10", "math/bits.deBruijn32tab", "math/bits.deBruijn64tab", "math/bits.overflowError"], apart := false, laid := [("math/bits.deBruijn32tab", laid_math_bits_deBruijn32tab), ("math/bits.deBruijn64tab", laid_math_bits_deBruijn64tab), ("internal/strconv.uint64pow10", laid_internal_strconv_uint64pow10), ("bspregion/api.ErrInvalid", laid_bspregion_api_ErrInvalid), ("bspregion/api.ErrRing", laid_bspregion_api_ErrRing), ("bspregion/api.ErrLimit", laid_bspregion_api_ErrLimit)] }
def RingChecksSaid : Prop := ringChecksRow.holds Tryz.pinned (OpenSpec.ofChange ringChecksSpec)

/-- ITS FALSE NEIGHBOUR: 'it returns false'. Refute it at one input. -/
def ringChecksWrong : ChangeSpec := { name := "ringChecks", fn := fun _ => fun
  | [d] => { results := [.lit (.bool false)], args := [d] }
  | _ => none }
def RingChecksWrongFalsely : Prop := ringChecksRow.holds Tryz.pinned (OpenSpec.ofChange ringChecksWrong)

/-- 'bspregionlaw09.RingInvariants': WHATEVER THE INPUT: true; the input reads as it did. -/
def ringInvariantsSpec : ChangeSpec := { name := "ringInvariants", fn := fun _ => fun
  | [d] => { results := [.lit (.bool true)], args := [d] }
  | _ => none }
def ringInvariantsRow : OpenClaim := { program := "ytdlnoeegboapkaagreatdoor", sum := "6b3d61b2ed642bef5931f654663d467f32e08022b3642c9038ae6dca3409cf44", func := "bspregion/bspregionlaw09.RingInvariants", spec := "ringInvariants", inPlace := ["internal/reflectlite.TypeOf"], unfollowed := true, recurses := true, named := ["math/bits.overflowError", "bspregion/api.ErrLimit", "bspregion/api.ErrInvalid", "bspregion/api.ErrRing", "internal/strconv.uint64pow10", "math/bits.deBruijn32tab", "math/bits.deBruijn64tab"], apart := false, laid := [("math/bits.deBruijn32tab", laid_math_bits_deBruijn32tab), ("math/bits.deBruijn64tab", laid_math_bits_deBruijn64tab), ("internal/strconv.uint64pow10", laid_internal_strconv_uint64pow10), ("bspregion/api.ErrInvalid", laid_bspregion_api_ErrInvalid), ("bspregion/api.ErrRing", laid_bspregion_api_ErrRing), ("bspregion/api.ErrLimit", laid_bspregion_api_ErrLimit)] }
def RingInvariantsSaid : Prop := ringInvariantsRow.holds Tryz.pinned (OpenSpec.ofChange ringInvariantsSpec)

/-- ITS FALSE NEIGHBOUR: 'it returns false'. Refute it at one input. -/
def ringInvariantsWrong : ChangeSpec := { name := "ringInvariants", fn := fun _ => fun
  | [d] => { results := [.lit (.bool false)], args := [d] }
  | _ => none }
def RingInvariantsWrongFalsely : Prop := ringInvariantsRow.holds Tryz.pinned (OpenSpec.ofChange ringInvariantsWrong)

/- THE SECOND FORM. 'bulk': how many values and letters a reading holds, each counted each time it is reached (what is shared counts as often as it is met; a slice's spare places count too). A statement '..UptoSaid' is the law's where the arguments, and the package variables that the reading takes, are together of bulk at most 1048576: NARROWER than '..Said'. Prove '..Said' where nothing that the law and all that it calls make is longer than what came in: it says more and counts as full. Else prove '..UptoSaid'. A law counts once. -/
mutual
def uptoBulk {H : Type} : DataW H → Nat
  | .lit (.string bytes) => bytes.length + 1
  | .lit _ => 1
  | .nil => 1
  | .ptr d => uptoBulk d + 1
  | .slice elems spare => uptoBulkAll elems + uptoBulkAll spare + 1
  | .agg parts => uptoBulkAll parts + 1
  | .iface _ d => uptoBulk d + 1
  | .map entries => uptoBulkEntries entries + 1
  | .held _ => 1
def uptoBulkAll {H : Type} : List (DataW H) → Nat
  | [] => 0
  | d :: r => uptoBulk d + uptoBulkAll r
def uptoBulkEntries {H : Type} : List (Lit × DataW H) → Nat
  | [] => 0
  | x :: r => uptoBulkEntry x + uptoBulkEntries r
def uptoBulkEntry {H : Type} : Lit × DataW H → Nat
  | (.string bytes, d) => bytes.length + uptoBulk d + 1
  | (_, d) => uptoBulk d + 1
 end
def uptoSmall : (H : Type) → List (DataW H) → Bool := fun _ ds => decide (uptoBulkAll ds ≤ 1048576)
def OpenSpec.upto (s : _root_.Go.ChangeSpec) : _root_.Go.OpenSpec := { _root_.Go.OpenSpec.ofChange s with cond := some uptoSmall }

/-- 'bspregionlaw04.PointTexts', WHERE WHAT IT READS IS OF BULK AT MOST 1048576: true; the input reads as it did. -/
def pointTextsUptoRow : OpenClaim := { program := "ytdlnoeegboapkaagreatdoor", sum := "6b3d61b2ed642bef5931f654663d467f32e08022b3642c9038ae6dca3409cf44", func := "bspregion/bspregionlaw04.PointTexts", spec := "pointTexts", inPlace := ["internal/bytealg.IndexByteString", "internal/bytealg.IndexString", "internal/reflectlite.TypeOf"], unfollowed := true, recurses := true, named := ["bspregion/api.ErrSyntax", "bspregion/api.ErrRange", "math/bits.overflowError", "internal/bytealg.MaxLen", "bspregion/api.ErrLimit"], apart := false, laid := [("bspregion/api.ErrSyntax", laid_bspregion_api_ErrSyntax), ("bspregion/api.ErrLimit", laid_bspregion_api_ErrLimit), ("bspregion/api.ErrRange", laid_bspregion_api_ErrRange)], narrowed := true }
def PointTextsUptoSaid : Prop := pointTextsUptoRow.holds Tryz.pinned (OpenSpec.upto pointTextsSpec)

/-- 'bspregionlaw09.RingLimit', WHERE WHAT IT READS IS OF BULK AT MOST 1048576: true; the input reads as it did. -/
def ringLimitUptoRow : OpenClaim := { program := "ytdlnoeegboapkaagreatdoor", sum := "6b3d61b2ed642bef5931f654663d467f32e08022b3642c9038ae6dca3409cf44", func := "bspregion/bspregionlaw09.RingLimit", spec := "ringLimit", inPlace := ["internal/reflectlite.TypeOf"], unfollowed := true, recurses := true, named := ["bspregion/api.ErrLimit", "bspregion/api.ErrInvalid", "bspregion/api.ErrRing", "internal/strconv.uint64pow10", "math/bits.deBruijn32tab", "math/bits.deBruijn64tab", "math/bits.overflowError"], apart := false, laid := [("math/bits.deBruijn32tab", laid_math_bits_deBruijn32tab), ("math/bits.deBruijn64tab", laid_math_bits_deBruijn64tab), ("internal/strconv.uint64pow10", laid_internal_strconv_uint64pow10), ("bspregion/api.ErrInvalid", laid_bspregion_api_ErrInvalid), ("bspregion/api.ErrRing", laid_bspregion_api_ErrRing), ("bspregion/api.ErrLimit", laid_bspregion_api_ErrLimit)], narrowed := true }
def RingLimitUptoSaid : Prop := ringLimitUptoRow.holds Tryz.pinned (OpenSpec.upto ringLimitSpec)

/-- 'bspregionlaw09.RingOrders', WHERE WHAT IT READS IS OF BULK AT MOST 1048576: true; the input reads as it did. -/
def ringOrdersUptoRow : OpenClaim := { program := "ytdlnoeegboapkaagreatdoor", sum := "6b3d61b2ed642bef5931f654663d467f32e08022b3642c9038ae6dca3409cf44", func := "bspregion/bspregionlaw09.RingOrders", spec := "ringOrders", inPlace := ["internal/reflectlite.TypeOf"], unfollowed := true, recurses := true, named := ["math/bits.overflowError", "bspregion/api.ErrLimit", "bspregion/api.ErrInvalid", "bspregion/api.ErrRing", "internal/strconv.uint64pow10", "math/bits.deBruijn32tab", "math/bits.deBruijn64tab"], apart := false, laid := [("math/bits.deBruijn32tab", laid_math_bits_deBruijn32tab), ("math/bits.deBruijn64tab", laid_math_bits_deBruijn64tab), ("internal/strconv.uint64pow10", laid_internal_strconv_uint64pow10), ("bspregion/api.ErrInvalid", laid_bspregion_api_ErrInvalid), ("bspregion/api.ErrRing", laid_bspregion_api_ErrRing), ("bspregion/api.ErrLimit", laid_bspregion_api_ErrLimit)], narrowed := true }
def RingOrdersUptoSaid : Prop := ringOrdersUptoRow.holds Tryz.pinned (OpenSpec.upto ringOrdersSpec)

/-- 'bspregionlaw09.RingComputes', WHERE WHAT IT READS IS OF BULK AT MOST 1048576: true; the input reads as it did. -/
def ringComputesUptoRow : OpenClaim := { program := "ytdlnoeegboapkaagreatdoor", sum := "6b3d61b2ed642bef5931f654663d467f32e08022b3642c9038ae6dca3409cf44", func := "bspregion/bspregionlaw09.RingComputes", spec := "ringComputes", inPlace := ["internal/reflectlite.TypeOf"], unfollowed := true, recurses := true, named := ["math/bits.overflowError", "bspregion/api.ErrLimit", "bspregion/api.ErrInvalid", "bspregion/api.ErrRing", "internal/strconv.uint64pow10", "math/bits.deBruijn32tab", "math/bits.deBruijn64tab"], apart := false, laid := [("math/bits.deBruijn32tab", laid_math_bits_deBruijn32tab), ("math/bits.deBruijn64tab", laid_math_bits_deBruijn64tab), ("internal/strconv.uint64pow10", laid_internal_strconv_uint64pow10), ("bspregion/api.ErrInvalid", laid_bspregion_api_ErrInvalid), ("bspregion/api.ErrRing", laid_bspregion_api_ErrRing), ("bspregion/api.ErrLimit", laid_bspregion_api_ErrLimit)], narrowed := true }
def RingComputesUptoSaid : Prop := ringComputesUptoRow.holds Tryz.pinned (OpenSpec.upto ringComputesSpec)

/-- 'bspregionlaw09.RingShapes', WHERE WHAT IT READS IS OF BULK AT MOST 1048576: true; the input reads as it did. -/
def ringShapesUptoRow : OpenClaim := { program := "ytdlnoeegboapkaagreatdoor", sum := "6b3d61b2ed642bef5931f654663d467f32e08022b3642c9038ae6dca3409cf44", func := "bspregion/bspregionlaw09.RingShapes", spec := "ringShapes", inPlace := ["internal/reflectlite.TypeOf"], unfollowed := true, recurses := true, named := ["math/bits.overflowError", "bspregion/api.ErrLimit", "bspregion/api.ErrInvalid", "bspregion/api.ErrRing", "internal/strconv.uint64pow10", "math/bits.deBruijn32tab", "math/bits.deBruijn64tab"], apart := false, laid := [("math/bits.deBruijn32tab", laid_math_bits_deBruijn32tab), ("math/bits.deBruijn64tab", laid_math_bits_deBruijn64tab), ("internal/strconv.uint64pow10", laid_internal_strconv_uint64pow10), ("bspregion/api.ErrInvalid", laid_bspregion_api_ErrInvalid), ("bspregion/api.ErrRing", laid_bspregion_api_ErrRing), ("bspregion/api.ErrLimit", laid_bspregion_api_ErrLimit)], narrowed := true }
def RingShapesUptoSaid : Prop := ringShapesUptoRow.holds Tryz.pinned (OpenSpec.upto ringShapesSpec)

/-- 'bspregionlaw09.RingChecks', WHERE WHAT IT READS IS OF BULK AT MOST 1048576: true; the input reads as it did. -/
def ringChecksUptoRow : OpenClaim := { program := "ytdlnoeegboapkaagreatdoor", sum := "6b3d61b2ed642bef5931f654663d467f32e08022b3642c9038ae6dca3409cf44", func := "bspregion/bspregionlaw09.RingChecks", spec := "ringChecks", inPlace := ["internal/reflectlite.TypeOf"], unfollowed := true, recurses := true, named := ["bspregion/api.ErrRing", "bspregion/api.ErrLimit", "bspregion/api.ErrInvalid", "internal/strconv.uint64pow10", "math/bits.deBruijn32tab", "math/bits.deBruijn64tab", "math/bits.overflowError"], apart := false, laid := [("math/bits.deBruijn32tab", laid_math_bits_deBruijn32tab), ("math/bits.deBruijn64tab", laid_math_bits_deBruijn64tab), ("internal/strconv.uint64pow10", laid_internal_strconv_uint64pow10), ("bspregion/api.ErrInvalid", laid_bspregion_api_ErrInvalid), ("bspregion/api.ErrRing", laid_bspregion_api_ErrRing), ("bspregion/api.ErrLimit", laid_bspregion_api_ErrLimit)], narrowed := true }
def RingChecksUptoSaid : Prop := ringChecksUptoRow.holds Tryz.pinned (OpenSpec.upto ringChecksSpec)

/-- 'bspregionlaw09.RingInvariants', WHERE WHAT IT READS IS OF BULK AT MOST 1048576: true; the input reads as it did. -/
def ringInvariantsUptoRow : OpenClaim := { program := "ytdlnoeegboapkaagreatdoor", sum := "6b3d61b2ed642bef5931f654663d467f32e08022b3642c9038ae6dca3409cf44", func := "bspregion/bspregionlaw09.RingInvariants", spec := "ringInvariants", inPlace := ["internal/reflectlite.TypeOf"], unfollowed := true, recurses := true, named := ["math/bits.overflowError", "bspregion/api.ErrLimit", "bspregion/api.ErrInvalid", "bspregion/api.ErrRing", "internal/strconv.uint64pow10", "math/bits.deBruijn32tab", "math/bits.deBruijn64tab"], apart := false, laid := [("math/bits.deBruijn32tab", laid_math_bits_deBruijn32tab), ("math/bits.deBruijn64tab", laid_math_bits_deBruijn64tab), ("internal/strconv.uint64pow10", laid_internal_strconv_uint64pow10), ("bspregion/api.ErrInvalid", laid_bspregion_api_ErrInvalid), ("bspregion/api.ErrRing", laid_bspregion_api_ErrRing), ("bspregion/api.ErrLimit", laid_bspregion_api_ErrLimit)], narrowed := true }
def RingInvariantsUptoSaid : Prop := ringInvariantsUptoRow.holds Tryz.pinned (OpenSpec.upto ringInvariantsSpec)

end Rows
end Go.Proofs.YtdlnoeegboapkaaGreatDoor
