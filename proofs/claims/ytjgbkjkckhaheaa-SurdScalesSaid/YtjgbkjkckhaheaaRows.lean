/-
  No cell of these rows narrows 'for every input' (looked for: loops, veiled, ifaces, maps, wideKeys, modest, calm, conditions, laid).
  DERIVED. THE GIVEN ROWS OF THIS SEAT. 12 by the template 'for every input the law returns true; each argument reads behind the call as it read before'; 0 by the template 'total and deterministic' (their statements: YtjgbkjkckhaheaaTotals.lean).
  GIVEN WITH THE SEED: the statements are not yours to turn. If you find one false, say at which input.
  Laid BY PROGRAM, IN A SANDBOX (cutbox-rows.mjs): the forced cells as the released guide's own fill.sh prints them over the translation c22d87e66e5fd2ee… (all of the seat's roots in one cut). By AI agents, Wed Nov 11 2026. No macro, syntax, notation, axiom, sorry.
-/
import Derived.Test.YtjgbkjkckhaheaaChecked
import GoSem.Claim
import GoSem.ClaimJoined
import GoSem.ClaimMapViews
import Derived.JoinedTies
import Derived.KernelRfl
namespace Go.Proofs.Ytjgbkjkckhaheaa
/- THE CELL 'sum', in the pinned program and in every row, IS THE sha256 OF THE DUMP (.gsa) THAT YtjgbkjkckhaheaaProg.lean LOADS. Nothing in Lean hashes anything: it is a label: what it is worth is what the hold of that sum in a sandbox is worth. -/
noncomputable def Try.pinned : Pinned := { name := "ytjgbkjkckhaheaa", sum := "c22d87e66e5fd2eec6e3172596ba43ed89992a34eb65a73464fd40933b19065a", checked := Try.checked }
namespace Rows
def none {H : Type} : Left H := { results := [], args := [] }

/-- 'compositorlaw02.WideSqrt': WHATEVER THE INPUT: true; the input reads as it did. -/
def wideSqrtSpec : ChangeSpec := { name := "wideSqrt", fn := fun _ => fun
  | [d1, d2, d3] => { results := [.lit (.bool true)], args := [d1, d2, d3] }
  | _ => none }
def wideSqrtRow : OpenClaim := { program := "ytjgbkjkckhaheaa", sum := "c22d87e66e5fd2eec6e3172596ba43ed89992a34eb65a73464fd40933b19065a", func := "compositor/compositorlaw02.WideSqrt", spec := "wideSqrt", named := ["math/bits.divideError", "math/bits.overflowError"], apart := false }
def WideSqrtSaid : Prop := wideSqrtRow.holds Try.pinned (OpenSpec.ofChange wideSqrtSpec)

/-- ITS FALSE NEIGHBOUR: 'it returns false'. Refute it at one input. -/
def wideSqrtWrong : ChangeSpec := { name := "wideSqrt", fn := fun _ => fun
  | [d1, d2, d3] => { results := [.lit (.bool false)], args := [d1, d2, d3] }
  | _ => none }
def WideSqrtWrongFalsely : Prop := wideSqrtRow.holds Try.pinned (OpenSpec.ofChange wideSqrtWrong)

/-- 'compositorlaw02.WideDivides': WHATEVER THE INPUT: true; the input reads as it did. -/
def wideDividesSpec : ChangeSpec := { name := "wideDivides", fn := fun _ => fun
  | [d1, d2, d3] => { results := [.lit (.bool true)], args := [d1, d2, d3] }
  | _ => none }
def wideDividesRow : OpenClaim := { program := "ytjgbkjkckhaheaa", sum := "c22d87e66e5fd2eec6e3172596ba43ed89992a34eb65a73464fd40933b19065a", func := "compositor/compositorlaw02.WideDivides", spec := "wideDivides", inPlace := ["math/bits.Add64"], named := ["math/bits.divideError", "math/bits.overflowError"], apart := false }
def WideDividesSaid : Prop := wideDividesRow.holds Try.pinned (OpenSpec.ofChange wideDividesSpec)

/-- ITS FALSE NEIGHBOUR: 'it returns false'. Refute it at one input. -/
def wideDividesWrong : ChangeSpec := { name := "wideDivides", fn := fun _ => fun
  | [d1, d2, d3] => { results := [.lit (.bool false)], args := [d1, d2, d3] }
  | _ => none }
def WideDividesWrongFalsely : Prop := wideDividesRow.holds Try.pinned (OpenSpec.ofChange wideDividesWrong)

/-- 'compositorlaw02.WideMulSmallAgrees': WHATEVER THE INPUT: true; the input reads as it did. -/
def wideMulSmallAgreesSpec : ChangeSpec := { name := "wideMulSmallAgrees", fn := fun _ => fun
  | [d1, d2, d3, d4] => { results := [.lit (.bool true)], args := [d1, d2, d3, d4] }
  | _ => none }
def wideMulSmallAgreesRow : OpenClaim := { program := "ytjgbkjkckhaheaa", sum := "c22d87e66e5fd2eec6e3172596ba43ed89992a34eb65a73464fd40933b19065a", func := "compositor/compositorlaw02.WideMulSmallAgrees", spec := "wideMulSmallAgrees", inPlace := ["math/bits.Add64"], named := ["math/bits.divideError", "math/bits.overflowError"], apart := false }
def WideMulSmallAgreesSaid : Prop := wideMulSmallAgreesRow.holds Try.pinned (OpenSpec.ofChange wideMulSmallAgreesSpec)

/-- ITS FALSE NEIGHBOUR: 'it returns false'. Refute it at one input. -/
def wideMulSmallAgreesWrong : ChangeSpec := { name := "wideMulSmallAgrees", fn := fun _ => fun
  | [d1, d2, d3, d4] => { results := [.lit (.bool false)], args := [d1, d2, d3, d4] }
  | _ => none }
def WideMulSmallAgreesWrongFalsely : Prop := wideMulSmallAgreesRow.holds Try.pinned (OpenSpec.ofChange wideMulSmallAgreesWrong)

/-- 'compositorlaw02.WideHalfAgrees': WHATEVER THE INPUT: true; the input reads as it did. -/
def wideHalfAgreesSpec : ChangeSpec := { name := "wideHalfAgrees", fn := fun _ => fun
  | [d1, d2, d3] => { results := [.lit (.bool true)], args := [d1, d2, d3] }
  | _ => none }
def wideHalfAgreesRow : OpenClaim := { program := "ytjgbkjkckhaheaa", sum := "c22d87e66e5fd2eec6e3172596ba43ed89992a34eb65a73464fd40933b19065a", func := "compositor/compositorlaw02.WideHalfAgrees", spec := "wideHalfAgrees", inPlace := ["math/bits.Add64"], named := ["math/bits.divideError", "math/bits.overflowError"], apart := false }
def WideHalfAgreesSaid : Prop := wideHalfAgreesRow.holds Try.pinned (OpenSpec.ofChange wideHalfAgreesSpec)

/-- ITS FALSE NEIGHBOUR: 'it returns false'. Refute it at one input. -/
def wideHalfAgreesWrong : ChangeSpec := { name := "wideHalfAgrees", fn := fun _ => fun
  | [d1, d2, d3] => { results := [.lit (.bool false)], args := [d1, d2, d3] }
  | _ => none }
def WideHalfAgreesWrongFalsely : Prop := wideHalfAgreesRow.holds Try.pinned (OpenSpec.ofChange wideHalfAgreesWrong)

/-- 'compositorlaw02.WideIsARing': WHATEVER THE INPUT: true; the input reads as it did. -/
def wideIsARingSpec : ChangeSpec := { name := "wideIsARing", fn := fun _ => fun
  | [d1, d2, d3, d4, d5] => { results := [.lit (.bool true)], args := [d1, d2, d3, d4, d5] }
  | _ => none }
def wideIsARingRow : OpenClaim := { program := "ytjgbkjkckhaheaa", sum := "c22d87e66e5fd2eec6e3172596ba43ed89992a34eb65a73464fd40933b19065a", func := "compositor/compositorlaw02.WideIsARing", spec := "wideIsARing", inPlace := ["math/bits.Add64", "math/bits.Sub64"], named := ["math/bits.divideError", "math/bits.overflowError"], apart := false }
def WideIsARingSaid : Prop := wideIsARingRow.holds Try.pinned (OpenSpec.ofChange wideIsARingSpec)

/-- ITS FALSE NEIGHBOUR: 'it returns false'. Refute it at one input. -/
def wideIsARingWrong : ChangeSpec := { name := "wideIsARing", fn := fun _ => fun
  | [d1, d2, d3, d4, d5] => { results := [.lit (.bool false)], args := [d1, d2, d3, d4, d5] }
  | _ => none }
def WideIsARingWrongFalsely : Prop := wideIsARingRow.holds Try.pinned (OpenSpec.ofChange wideIsARingWrong)

/-- 'compositorlaw02.WideSumsAgree': WHATEVER THE INPUT: true; the input reads as it did. -/
def wideSumsAgreeSpec : ChangeSpec := { name := "wideSumsAgree", fn := fun _ => fun
  | [d1, d2, d3, d4] => { results := [.lit (.bool true)], args := [d1, d2, d3, d4] }
  | _ => none }
def wideSumsAgreeRow : OpenClaim := { program := "ytjgbkjkckhaheaa", sum := "c22d87e66e5fd2eec6e3172596ba43ed89992a34eb65a73464fd40933b19065a", func := "compositor/compositorlaw02.WideSumsAgree", spec := "wideSumsAgree", inPlace := ["math/bits.Add64", "math/bits.Sub64"], named := ["math/bits.divideError", "math/bits.overflowError"], apart := false }
def WideSumsAgreeSaid : Prop := wideSumsAgreeRow.holds Try.pinned (OpenSpec.ofChange wideSumsAgreeSpec)

/-- ITS FALSE NEIGHBOUR: 'it returns false'. Refute it at one input. -/
def wideSumsAgreeWrong : ChangeSpec := { name := "wideSumsAgree", fn := fun _ => fun
  | [d1, d2, d3, d4] => { results := [.lit (.bool false)], args := [d1, d2, d3, d4] }
  | _ => none }
def WideSumsAgreeWrongFalsely : Prop := wideSumsAgreeRow.holds Try.pinned (OpenSpec.ofChange wideSumsAgreeWrong)

/-- 'compositorlaw03.SurdValidAgrees': WHATEVER THE INPUT: true; the input reads as it did. -/
def surdValidAgreesSpec : ChangeSpec := { name := "surdValidAgrees", fn := fun _ => fun
  | [d1, d2, d3] => { results := [.lit (.bool true)], args := [d1, d2, d3] }
  | _ => none }
def surdValidAgreesRow : OpenClaim := { program := "ytjgbkjkckhaheaa", sum := "c22d87e66e5fd2eec6e3172596ba43ed89992a34eb65a73464fd40933b19065a", func := "compositor/compositorlaw03.SurdValidAgrees", spec := "surdValidAgrees", inPlace := ["math/bits.Add64", "math/bits.Sub64"], named := ["math/bits.divideError", "math/bits.overflowError"], apart := false }
def SurdValidAgreesSaid : Prop := surdValidAgreesRow.holds Try.pinned (OpenSpec.ofChange surdValidAgreesSpec)

/-- ITS FALSE NEIGHBOUR: 'it returns false'. Refute it at one input. -/
def surdValidAgreesWrong : ChangeSpec := { name := "surdValidAgrees", fn := fun _ => fun
  | [d1, d2, d3] => { results := [.lit (.bool false)], args := [d1, d2, d3] }
  | _ => none }
def SurdValidAgreesWrongFalsely : Prop := surdValidAgreesRow.holds Try.pinned (OpenSpec.ofChange surdValidAgreesWrong)

/-- 'compositorlaw03.SurdCompareAgrees': WHATEVER THE INPUT: true; the input reads as it did. -/
def surdCompareAgreesSpec : ChangeSpec := { name := "surdCompareAgrees", fn := fun _ => fun
  | [d1, d2, d3] => { results := [.lit (.bool true)], args := [d1, d2, d3] }
  | _ => none }
def surdCompareAgreesRow : OpenClaim := { program := "ytjgbkjkckhaheaa", sum := "c22d87e66e5fd2eec6e3172596ba43ed89992a34eb65a73464fd40933b19065a", func := "compositor/compositorlaw03.SurdCompareAgrees", spec := "surdCompareAgrees", inPlace := ["math/bits.Add64", "math/bits.Sub64"], named := ["math/bits.divideError", "math/bits.overflowError"], apart := false }
def SurdCompareAgreesSaid : Prop := surdCompareAgreesRow.holds Try.pinned (OpenSpec.ofChange surdCompareAgreesSpec)

/-- ITS FALSE NEIGHBOUR: 'it returns false'. Refute it at one input. -/
def surdCompareAgreesWrong : ChangeSpec := { name := "surdCompareAgrees", fn := fun _ => fun
  | [d1, d2, d3] => { results := [.lit (.bool false)], args := [d1, d2, d3] }
  | _ => none }
def SurdCompareAgreesWrongFalsely : Prop := surdCompareAgreesRow.holds Try.pinned (OpenSpec.ofChange surdCompareAgreesWrong)

/-- 'compositorlaw03.SurdRoundingAgrees': WHATEVER THE INPUT: true; the input reads as it did. -/
def surdRoundingAgreesSpec : ChangeSpec := { name := "surdRoundingAgrees", fn := fun _ => fun
  | [d1, d2] => { results := [.lit (.bool true)], args := [d1, d2] }
  | _ => none }
def surdRoundingAgreesRow : OpenClaim := { program := "ytjgbkjkckhaheaa", sum := "c22d87e66e5fd2eec6e3172596ba43ed89992a34eb65a73464fd40933b19065a", func := "compositor/compositorlaw03.SurdRoundingAgrees", spec := "surdRoundingAgrees", inPlace := ["math/bits.Add64", "math/bits.Sub64"], named := ["math/bits.divideError", "math/bits.overflowError"], apart := false }
def SurdRoundingAgreesSaid : Prop := surdRoundingAgreesRow.holds Try.pinned (OpenSpec.ofChange surdRoundingAgreesSpec)

/-- ITS FALSE NEIGHBOUR: 'it returns false'. Refute it at one input. -/
def surdRoundingAgreesWrong : ChangeSpec := { name := "surdRoundingAgrees", fn := fun _ => fun
  | [d1, d2] => { results := [.lit (.bool false)], args := [d1, d2] }
  | _ => none }
def SurdRoundingAgreesWrongFalsely : Prop := surdRoundingAgreesRow.holds Try.pinned (OpenSpec.ofChange surdRoundingAgreesWrong)

/-- 'compositorlaw03.SurdFloorByCompare': WHATEVER THE INPUT: true; the input reads as it did. -/
def surdFloorByCompareSpec : ChangeSpec := { name := "surdFloorByCompare", fn := fun _ => fun
  | [d] => { results := [.lit (.bool true)], args := [d] }
  | _ => none }
def surdFloorByCompareRow : OpenClaim := { program := "ytjgbkjkckhaheaa", sum := "c22d87e66e5fd2eec6e3172596ba43ed89992a34eb65a73464fd40933b19065a", func := "compositor/compositorlaw03.SurdFloorByCompare", spec := "surdFloorByCompare", inPlace := ["math/bits.Add64", "math/bits.Sub64"], named := ["math/bits.divideError", "math/bits.overflowError"], apart := false }
def SurdFloorByCompareSaid : Prop := surdFloorByCompareRow.holds Try.pinned (OpenSpec.ofChange surdFloorByCompareSpec)

/-- ITS FALSE NEIGHBOUR: 'it returns false'. Refute it at one input. -/
def surdFloorByCompareWrong : ChangeSpec := { name := "surdFloorByCompare", fn := fun _ => fun
  | [d] => { results := [.lit (.bool false)], args := [d] }
  | _ => none }
def SurdFloorByCompareWrongFalsely : Prop := surdFloorByCompareRow.holds Try.pinned (OpenSpec.ofChange surdFloorByCompareWrong)

/-- 'compositorlaw03.SurdSquares': WHATEVER THE INPUT: true; the input reads as it did. -/
def surdSquaresSpec : ChangeSpec := { name := "surdSquares", fn := fun _ => fun
  | [d1, d2, d3, d4] => { results := [.lit (.bool true)], args := [d1, d2, d3, d4] }
  | _ => none }
def surdSquaresRow : OpenClaim := { program := "ytjgbkjkckhaheaa", sum := "c22d87e66e5fd2eec6e3172596ba43ed89992a34eb65a73464fd40933b19065a", func := "compositor/compositorlaw03.SurdSquares", spec := "surdSquares", inPlace := ["math/bits.Add64", "math/bits.Sub64"], named := ["math/bits.divideError", "math/bits.overflowError"], apart := false }
def SurdSquaresSaid : Prop := surdSquaresRow.holds Try.pinned (OpenSpec.ofChange surdSquaresSpec)

/-- ITS FALSE NEIGHBOUR: 'it returns false'. Refute it at one input. -/
def surdSquaresWrong : ChangeSpec := { name := "surdSquares", fn := fun _ => fun
  | [d1, d2, d3, d4] => { results := [.lit (.bool false)], args := [d1, d2, d3, d4] }
  | _ => none }
def SurdSquaresWrongFalsely : Prop := surdSquaresRow.holds Try.pinned (OpenSpec.ofChange surdSquaresWrong)

/-- 'compositorlaw03.SurdScales': WHATEVER THE INPUT: true; the input reads as it did. -/
def surdScalesSpec : ChangeSpec := { name := "surdScales", fn := fun _ => fun
  | [d1, d2] => { results := [.lit (.bool true)], args := [d1, d2] }
  | _ => none }
def surdScalesRow : OpenClaim := { program := "ytjgbkjkckhaheaa", sum := "c22d87e66e5fd2eec6e3172596ba43ed89992a34eb65a73464fd40933b19065a", func := "compositor/compositorlaw03.SurdScales", spec := "surdScales", inPlace := ["math/bits.Add64", "math/bits.Sub64"], named := ["math/bits.divideError", "math/bits.overflowError"], apart := false }
def SurdScalesSaid : Prop := surdScalesRow.holds Try.pinned (OpenSpec.ofChange surdScalesSpec)

/-- ITS FALSE NEIGHBOUR: 'it returns false'. Refute it at one input. -/
def surdScalesWrong : ChangeSpec := { name := "surdScales", fn := fun _ => fun
  | [d1, d2] => { results := [.lit (.bool false)], args := [d1, d2] }
  | _ => none }
def SurdScalesWrongFalsely : Prop := surdScalesRow.holds Try.pinned (OpenSpec.ofChange surdScalesWrong)

/- THE SECOND FORM. 'bulk': how many values and letters a reading holds, each counted each time it is reached (what is shared counts as often as it is met; a slice's spare places count too). A statement '..UptoSaid' is the law's where the arguments, and the package variables that the reading takes, are together of bulk at most 1048576: NARROWER than '..Said'. Prove '..Said' where nothing that the law and all that it calls make is longer than what came in: it says more and counts as full. Else prove '..UptoSaid'. A law counts once. -/
mutual
def uptoBulk {H : Type} : DataW H → Nat
  | .lit (.string bytes) => bytes.length + 1
  | .lit _ => 1
  | .nil => 1
  | .ptr d => uptoBulk d + 1
  | .slice elems spare => uptoBulkAll elems + uptoBulkAll spare + 1
  | .agg parts => uptoBulkAll parts + 1
  | .iface _ d => uptoBulk d + 1
  | .map entries => uptoBulkEntries entries + 1
  | .held _ => 1
def uptoBulkAll {H : Type} : List (DataW H) → Nat
  | [] => 0
  | d :: r => uptoBulk d + uptoBulkAll r
def uptoBulkEntries {H : Type} : List (Lit × DataW H) → Nat
  | [] => 0
  | x :: r => uptoBulkEntry x + uptoBulkEntries r
def uptoBulkEntry {H : Type} : Lit × DataW H → Nat
  | (.string bytes, d) => bytes.length + uptoBulk d + 1
  | (_, d) => uptoBulk d + 1
 end
def uptoSmall : (H : Type) → List (DataW H) → Bool := fun _ ds => decide (uptoBulkAll ds ≤ 1048576)
def OpenSpec.upto (s : _root_.Go.ChangeSpec) : _root_.Go.OpenSpec := { _root_.Go.OpenSpec.ofChange s with cond := some uptoSmall }

/-- 'compositorlaw02.WideSqrt', WHERE WHAT IT READS IS OF BULK AT MOST 1048576: true; the input reads as it did. -/
def wideSqrtUptoRow : OpenClaim := { program := "ytjgbkjkckhaheaa", sum := "c22d87e66e5fd2eec6e3172596ba43ed89992a34eb65a73464fd40933b19065a", func := "compositor/compositorlaw02.WideSqrt", spec := "wideSqrt", named := ["math/bits.divideError", "math/bits.overflowError"], apart := false, narrowed := true }
def WideSqrtUptoSaid : Prop := wideSqrtUptoRow.holds Try.pinned (OpenSpec.upto wideSqrtSpec)

/-- 'compositorlaw02.WideDivides', WHERE WHAT IT READS IS OF BULK AT MOST 1048576: true; the input reads as it did. -/
def wideDividesUptoRow : OpenClaim := { program := "ytjgbkjkckhaheaa", sum := "c22d87e66e5fd2eec6e3172596ba43ed89992a34eb65a73464fd40933b19065a", func := "compositor/compositorlaw02.WideDivides", spec := "wideDivides", inPlace := ["math/bits.Add64"], named := ["math/bits.divideError", "math/bits.overflowError"], apart := false, narrowed := true }
def WideDividesUptoSaid : Prop := wideDividesUptoRow.holds Try.pinned (OpenSpec.upto wideDividesSpec)

/-- 'compositorlaw02.WideMulSmallAgrees', WHERE WHAT IT READS IS OF BULK AT MOST 1048576: true; the input reads as it did. -/
def wideMulSmallAgreesUptoRow : OpenClaim := { program := "ytjgbkjkckhaheaa", sum := "c22d87e66e5fd2eec6e3172596ba43ed89992a34eb65a73464fd40933b19065a", func := "compositor/compositorlaw02.WideMulSmallAgrees", spec := "wideMulSmallAgrees", inPlace := ["math/bits.Add64"], named := ["math/bits.divideError", "math/bits.overflowError"], apart := false, narrowed := true }
def WideMulSmallAgreesUptoSaid : Prop := wideMulSmallAgreesUptoRow.holds Try.pinned (OpenSpec.upto wideMulSmallAgreesSpec)

/-- 'compositorlaw02.WideHalfAgrees', WHERE WHAT IT READS IS OF BULK AT MOST 1048576: true; the input reads as it did. -/
def wideHalfAgreesUptoRow : OpenClaim := { program := "ytjgbkjkckhaheaa", sum := "c22d87e66e5fd2eec6e3172596ba43ed89992a34eb65a73464fd40933b19065a", func := "compositor/compositorlaw02.WideHalfAgrees", spec := "wideHalfAgrees", inPlace := ["math/bits.Add64"], named := ["math/bits.divideError", "math/bits.overflowError"], apart := false, narrowed := true }
def WideHalfAgreesUptoSaid : Prop := wideHalfAgreesUptoRow.holds Try.pinned (OpenSpec.upto wideHalfAgreesSpec)

/-- 'compositorlaw02.WideIsARing', WHERE WHAT IT READS IS OF BULK AT MOST 1048576: true; the input reads as it did. -/
def wideIsARingUptoRow : OpenClaim := { program := "ytjgbkjkckhaheaa", sum := "c22d87e66e5fd2eec6e3172596ba43ed89992a34eb65a73464fd40933b19065a", func := "compositor/compositorlaw02.WideIsARing", spec := "wideIsARing", inPlace := ["math/bits.Add64", "math/bits.Sub64"], named := ["math/bits.divideError", "math/bits.overflowError"], apart := false, narrowed := true }
def WideIsARingUptoSaid : Prop := wideIsARingUptoRow.holds Try.pinned (OpenSpec.upto wideIsARingSpec)

/-- 'compositorlaw02.WideSumsAgree', WHERE WHAT IT READS IS OF BULK AT MOST 1048576: true; the input reads as it did. -/
def wideSumsAgreeUptoRow : OpenClaim := { program := "ytjgbkjkckhaheaa", sum := "c22d87e66e5fd2eec6e3172596ba43ed89992a34eb65a73464fd40933b19065a", func := "compositor/compositorlaw02.WideSumsAgree", spec := "wideSumsAgree", inPlace := ["math/bits.Add64", "math/bits.Sub64"], named := ["math/bits.divideError", "math/bits.overflowError"], apart := false, narrowed := true }
def WideSumsAgreeUptoSaid : Prop := wideSumsAgreeUptoRow.holds Try.pinned (OpenSpec.upto wideSumsAgreeSpec)

/-- 'compositorlaw03.SurdValidAgrees', WHERE WHAT IT READS IS OF BULK AT MOST 1048576: true; the input reads as it did. -/
def surdValidAgreesUptoRow : OpenClaim := { program := "ytjgbkjkckhaheaa", sum := "c22d87e66e5fd2eec6e3172596ba43ed89992a34eb65a73464fd40933b19065a", func := "compositor/compositorlaw03.SurdValidAgrees", spec := "surdValidAgrees", inPlace := ["math/bits.Add64", "math/bits.Sub64"], named := ["math/bits.divideError", "math/bits.overflowError"], apart := false, narrowed := true }
def SurdValidAgreesUptoSaid : Prop := surdValidAgreesUptoRow.holds Try.pinned (OpenSpec.upto surdValidAgreesSpec)

/-- 'compositorlaw03.SurdCompareAgrees', WHERE WHAT IT READS IS OF BULK AT MOST 1048576: true; the input reads as it did. -/
def surdCompareAgreesUptoRow : OpenClaim := { program := "ytjgbkjkckhaheaa", sum := "c22d87e66e5fd2eec6e3172596ba43ed89992a34eb65a73464fd40933b19065a", func := "compositor/compositorlaw03.SurdCompareAgrees", spec := "surdCompareAgrees", inPlace := ["math/bits.Add64", "math/bits.Sub64"], named := ["math/bits.divideError", "math/bits.overflowError"], apart := false, narrowed := true }
def SurdCompareAgreesUptoSaid : Prop := surdCompareAgreesUptoRow.holds Try.pinned (OpenSpec.upto surdCompareAgreesSpec)

/-- 'compositorlaw03.SurdRoundingAgrees', WHERE WHAT IT READS IS OF BULK AT MOST 1048576: true; the input reads as it did. -/
def surdRoundingAgreesUptoRow : OpenClaim := { program := "ytjgbkjkckhaheaa", sum := "c22d87e66e5fd2eec6e3172596ba43ed89992a34eb65a73464fd40933b19065a", func := "compositor/compositorlaw03.SurdRoundingAgrees", spec := "surdRoundingAgrees", inPlace := ["math/bits.Add64", "math/bits.Sub64"], named := ["math/bits.divideError", "math/bits.overflowError"], apart := false, narrowed := true }
def SurdRoundingAgreesUptoSaid : Prop := surdRoundingAgreesUptoRow.holds Try.pinned (OpenSpec.upto surdRoundingAgreesSpec)

/-- 'compositorlaw03.SurdFloorByCompare', WHERE WHAT IT READS IS OF BULK AT MOST 1048576: true; the input reads as it did. -/
def surdFloorByCompareUptoRow : OpenClaim := { program := "ytjgbkjkckhaheaa", sum := "c22d87e66e5fd2eec6e3172596ba43ed89992a34eb65a73464fd40933b19065a", func := "compositor/compositorlaw03.SurdFloorByCompare", spec := "surdFloorByCompare", inPlace := ["math/bits.Add64", "math/bits.Sub64"], named := ["math/bits.divideError", "math/bits.overflowError"], apart := false, narrowed := true }
def SurdFloorByCompareUptoSaid : Prop := surdFloorByCompareUptoRow.holds Try.pinned (OpenSpec.upto surdFloorByCompareSpec)

/-- 'compositorlaw03.SurdSquares', WHERE WHAT IT READS IS OF BULK AT MOST 1048576: true; the input reads as it did. -/
def surdSquaresUptoRow : OpenClaim := { program := "ytjgbkjkckhaheaa", sum := "c22d87e66e5fd2eec6e3172596ba43ed89992a34eb65a73464fd40933b19065a", func := "compositor/compositorlaw03.SurdSquares", spec := "surdSquares", inPlace := ["math/bits.Add64", "math/bits.Sub64"], named := ["math/bits.divideError", "math/bits.overflowError"], apart := false, narrowed := true }
def SurdSquaresUptoSaid : Prop := surdSquaresUptoRow.holds Try.pinned (OpenSpec.upto surdSquaresSpec)

/-- 'compositorlaw03.SurdScales', WHERE WHAT IT READS IS OF BULK AT MOST 1048576: true; the input reads as it did. -/
def surdScalesUptoRow : OpenClaim := { program := "ytjgbkjkckhaheaa", sum := "c22d87e66e5fd2eec6e3172596ba43ed89992a34eb65a73464fd40933b19065a", func := "compositor/compositorlaw03.SurdScales", spec := "surdScales", inPlace := ["math/bits.Add64", "math/bits.Sub64"], named := ["math/bits.divideError", "math/bits.overflowError"], apart := false, narrowed := true }
def SurdScalesUptoSaid : Prop := surdScalesUptoRow.holds Try.pinned (OpenSpec.upto surdScalesSpec)

end Rows
end Go.Proofs.Ytjgbkjkckhaheaa
