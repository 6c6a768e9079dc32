/-
  NARROWER THAN 'FOR EVERY INPUT', by the rows' own cells (each row's printed sentence says how): FrameNewRejects: laid · FrameScaledSource: laid · FrameNests: laid · FrameNil: laid.
  DERIVED. THE GIVEN ROWS OF THIS SEAT. 4 by the template 'for every input the law returns true; each argument reads behind the call as it read before'; 0 by the template 'total and deterministic' (their statements: YtdioaiepkhepaaaDoorTotals.lean).
  GIVEN WITH THE SEED: the statements are not yours to turn. If you find one false, say at which input.
  Laid BY PROGRAM, IN A SANDBOX (cutbox-rows.mjs): the forced cells as the released guide's own fill.sh prints them over the translation 4f6f5f040a41c952… (all of the seat's roots in one cut). By AI agents, Wed Nov 11 2026. No macro, syntax, notation, axiom, sorry.
-/
import Derived.Test.YtdioaiepkhepaaaDoorChecked
import GoSem.Claim
import GoSem.ClaimJoined
import GoSem.ClaimMapViews
import Derived.JoinedTies
import Derived.KernelRfl
namespace Go.Proofs.YtdioaiepkhepaaaDoor
/- THE CELL 'sum', in the pinned program and in every row, IS THE sha256 OF THE DUMP (.gsa) THAT YtdioaiepkhepaaaDoorProg.lean LOADS. Nothing in Lean hashes anything: it is a label: what it is worth is what the hold of that sum in a sandbox is worth. -/
noncomputable def Tryd.pinned : Pinned := { name := "ytdioaiepkhepaaadoor", sum := "4f6f5f040a41c952538058e99f656aa9222bf29736100126da9da2e50f7363a0", checked := Tryd.checked }
namespace Rows
def none {H : Type} : Left H := { results := [], args := [] }

/- WHAT THE LISTED PACKAGE-LEVEL VARIABLES READ AS WHEN THE CALL BEGINS. Each datum BY PROGRAM (the guide's laid-datum.mjs) off the statement by which the dump's own 'gosem.cut.vars' lays the variable. In a bare row this is a premise. The card (YtdioaiepkhepaaaDoorCards.lean) ties it to the program's text. -/
def laid_compositor_operator_rules {H : Type} : DataW H := .agg [.agg [.lit (.string []), .lit (.int .i64 0), .lit (.int .i64 0), .lit (.int .i64 0)], .agg [.lit (.string [99, 108, 101, 97, 114]), .lit (.int .i64 0), .lit (.int .i64 0), .lit (.int .i64 0)], .agg [.lit (.string [115, 114, 99]), .lit (.int .i64 1), .lit (.int .i64 0), .lit (.int .i64 1)], .agg [.lit (.string [100, 115, 116]), .lit (.int .i64 0), .lit (.int .i64 1), .lit (.int .i64 2)], .agg [.lit (.string [115, 114, 99, 45, 111, 118, 101, 114]), .lit (.int .i64 1), .lit (.int .i64 3), .lit (.int .i64 3)], .agg [.lit (.string [100, 115, 116, 45, 111, 118, 101, 114]), .lit (.int .i64 3), .lit (.int .i64 1), .lit (.int .i64 3)], .agg [.lit (.string [115, 114, 99, 45, 105, 110]), .lit (.int .i64 2), .lit (.int .i64 0), .lit (.int .i64 4)], .agg [.lit (.string [100, 115, 116, 45, 105, 110]), .lit (.int .i64 0), .lit (.int .i64 2), .lit (.int .i64 4)], .agg [.lit (.string [115, 114, 99, 45, 111, 117, 116]), .lit (.int .i64 3), .lit (.int .i64 0), .lit (.int .i64 1)], .agg [.lit (.string [100, 115, 116, 45, 111, 117, 116]), .lit (.int .i64 0), .lit (.int .i64 3), .lit (.int .i64 2)], .agg [.lit (.string [115, 114, 99, 45, 97, 116, 111, 112]), .lit (.int .i64 2), .lit (.int .i64 3), .lit (.int .i64 2)], .agg [.lit (.string [100, 115, 116, 45, 97, 116, 111, 112]), .lit (.int .i64 3), .lit (.int .i64 2), .lit (.int .i64 1)], .agg [.lit (.string [120, 111, 114]), .lit (.int .i64 3), .lit (.int .i64 3), .lit (.int .i64 3)]]

/-- 'compositorlaw22.FrameNewRejects': WHATEVER THE INPUT: true; the input reads as it did. -/
def frameNewRejectsSpec : ChangeSpec := { name := "frameNewRejects", fn := fun _ => fun
  | [d] => { results := [.lit (.bool true)], args := [d] }
  | _ => none }
def frameNewRejectsRow : OpenClaim := { program := "ytdioaiepkhepaaadoor", sum := "4f6f5f040a41c952538058e99f656aa9222bf29736100126da9da2e50f7363a0", func := "compositor/compositorlaw22.FrameNewRejects", spec := "frameNewRejects", inPlace := ["math/bits.Add64", "math/bits.Sub64"], named := ["math/bits.divideError", "math/bits.overflowError", "compositor/operator.rules"], apart := false, laid := [("compositor/operator.rules", laid_compositor_operator_rules)] }
def FrameNewRejectsSaid : Prop := frameNewRejectsRow.holds Tryd.pinned (OpenSpec.ofChange frameNewRejectsSpec)

/-- ITS FALSE NEIGHBOUR: 'it returns false'. Refute it at one input. -/
def frameNewRejectsWrong : ChangeSpec := { name := "frameNewRejects", fn := fun _ => fun
  | [d] => { results := [.lit (.bool false)], args := [d] }
  | _ => none }
def FrameNewRejectsWrongFalsely : Prop := frameNewRejectsRow.holds Tryd.pinned (OpenSpec.ofChange frameNewRejectsWrong)

/-- 'compositorlaw22.FrameScaledSource': WHATEVER THE INPUT: true; the input reads as it did. -/
def frameScaledSourceSpec : ChangeSpec := { name := "frameScaledSource", fn := fun _ => fun
  | [d1, d2, d3, d4, d5] => { results := [.lit (.bool true)], args := [d1, d2, d3, d4, d5] }
  | _ => none }
def frameScaledSourceRow : OpenClaim := { program := "ytdioaiepkhepaaadoor", sum := "4f6f5f040a41c952538058e99f656aa9222bf29736100126da9da2e50f7363a0", func := "compositor/compositorlaw22.FrameScaledSource", spec := "frameScaledSource", inPlace := ["math/bits.Add64", "math/bits.Sub64"], named := ["math/bits.divideError", "math/bits.overflowError", "compositor/operator.rules"], apart := false, laid := [("compositor/operator.rules", laid_compositor_operator_rules)] }
def FrameScaledSourceSaid : Prop := frameScaledSourceRow.holds Tryd.pinned (OpenSpec.ofChange frameScaledSourceSpec)

/-- ITS FALSE NEIGHBOUR: 'it returns false'. Refute it at one input. -/
def frameScaledSourceWrong : ChangeSpec := { name := "frameScaledSource", fn := fun _ => fun
  | [d1, d2, d3, d4, d5] => { results := [.lit (.bool false)], args := [d1, d2, d3, d4, d5] }
  | _ => none }
def FrameScaledSourceWrongFalsely : Prop := frameScaledSourceRow.holds Tryd.pinned (OpenSpec.ofChange frameScaledSourceWrong)

/-- 'compositorlaw22.FrameNests': WHATEVER THE INPUT: true; the input reads as it did. -/
def frameNestsSpec : ChangeSpec := { name := "frameNests", fn := fun _ => fun
  | [d1, d2] => { results := [.lit (.bool true)], args := [d1, d2] }
  | _ => none }
def frameNestsRow : OpenClaim := { program := "ytdioaiepkhepaaadoor", sum := "4f6f5f040a41c952538058e99f656aa9222bf29736100126da9da2e50f7363a0", func := "compositor/compositorlaw22.FrameNests", spec := "frameNests", inPlace := ["math/bits.Add64", "math/bits.Sub64"], named := ["math/bits.divideError", "math/bits.overflowError", "compositor/operator.rules"], apart := false, laid := [("compositor/operator.rules", laid_compositor_operator_rules)] }
def FrameNestsSaid : Prop := frameNestsRow.holds Tryd.pinned (OpenSpec.ofChange frameNestsSpec)

/-- ITS FALSE NEIGHBOUR: 'it returns false'. Refute it at one input. -/
def frameNestsWrong : ChangeSpec := { name := "frameNests", fn := fun _ => fun
  | [d1, d2] => { results := [.lit (.bool false)], args := [d1, d2] }
  | _ => none }
def FrameNestsWrongFalsely : Prop := frameNestsRow.holds Tryd.pinned (OpenSpec.ofChange frameNestsWrong)

/-- 'compositorlaw22.FrameNil': WHATEVER THE INPUT: true; the input reads as it did. -/
def frameNilSpec : ChangeSpec := { name := "frameNil", fn := fun _ => fun
  | [d1, d2, d3] => { results := [.lit (.bool true)], args := [d1, d2, d3] }
  | _ => none }
def frameNilRow : OpenClaim := { program := "ytdioaiepkhepaaadoor", sum := "4f6f5f040a41c952538058e99f656aa9222bf29736100126da9da2e50f7363a0", func := "compositor/compositorlaw22.FrameNil", spec := "frameNil", inPlace := ["math/bits.Add64", "math/bits.Sub64"], named := ["math/bits.divideError", "math/bits.overflowError", "compositor/operator.rules"], apart := false, laid := [("compositor/operator.rules", laid_compositor_operator_rules)] }
def FrameNilSaid : Prop := frameNilRow.holds Tryd.pinned (OpenSpec.ofChange frameNilSpec)

/-- ITS FALSE NEIGHBOUR: 'it returns false'. Refute it at one input. -/
def frameNilWrong : ChangeSpec := { name := "frameNil", fn := fun _ => fun
  | [d1, d2, d3] => { results := [.lit (.bool false)], args := [d1, d2, d3] }
  | _ => none }
def FrameNilWrongFalsely : Prop := frameNilRow.holds Tryd.pinned (OpenSpec.ofChange frameNilWrong)

/- THE SECOND FORM. 'bulk': how many values and letters a reading holds, each counted each time it is reached (what is shared counts as often as it is met; a slice's spare places count too). A statement '..UptoSaid' is the law's where the arguments, and the package variables that the reading takes, are together of bulk at most 1048576: NARROWER than '..Said'. Prove '..Said' where nothing that the law and all that it calls make is longer than what came in: it says more and counts as full. Else prove '..UptoSaid'. A law counts once. -/
mutual
def uptoBulk {H : Type} : DataW H → Nat
  | .lit (.string bytes) => bytes.length + 1
  | .lit _ => 1
  | .nil => 1
  | .ptr d => uptoBulk d + 1
  | .slice elems spare => uptoBulkAll elems + uptoBulkAll spare + 1
  | .agg parts => uptoBulkAll parts + 1
  | .iface _ d => uptoBulk d + 1
  | .map entries => uptoBulkEntries entries + 1
  | .held _ => 1
def uptoBulkAll {H : Type} : List (DataW H) → Nat
  | [] => 0
  | d :: r => uptoBulk d + uptoBulkAll r
def uptoBulkEntries {H : Type} : List (Lit × DataW H) → Nat
  | [] => 0
  | x :: r => uptoBulkEntry x + uptoBulkEntries r
def uptoBulkEntry {H : Type} : Lit × DataW H → Nat
  | (.string bytes, d) => bytes.length + uptoBulk d + 1
  | (_, d) => uptoBulk d + 1
 end
def uptoSmall : (H : Type) → List (DataW H) → Bool := fun _ ds => decide (uptoBulkAll ds ≤ 1048576)
def OpenSpec.upto (s : _root_.Go.ChangeSpec) : _root_.Go.OpenSpec := { _root_.Go.OpenSpec.ofChange s with cond := some uptoSmall }

/-- 'compositorlaw22.FrameNewRejects', WHERE WHAT IT READS IS OF BULK AT MOST 1048576: true; the input reads as it did. -/
def frameNewRejectsUptoRow : OpenClaim := { program := "ytdioaiepkhepaaadoor", sum := "4f6f5f040a41c952538058e99f656aa9222bf29736100126da9da2e50f7363a0", func := "compositor/compositorlaw22.FrameNewRejects", spec := "frameNewRejects", inPlace := ["math/bits.Add64", "math/bits.Sub64"], named := ["math/bits.divideError", "math/bits.overflowError", "compositor/operator.rules"], apart := false, laid := [("compositor/operator.rules", laid_compositor_operator_rules)], narrowed := true }
def FrameNewRejectsUptoSaid : Prop := frameNewRejectsUptoRow.holds Tryd.pinned (OpenSpec.upto frameNewRejectsSpec)

/-- 'compositorlaw22.FrameScaledSource', WHERE WHAT IT READS IS OF BULK AT MOST 1048576: true; the input reads as it did. -/
def frameScaledSourceUptoRow : OpenClaim := { program := "ytdioaiepkhepaaadoor", sum := "4f6f5f040a41c952538058e99f656aa9222bf29736100126da9da2e50f7363a0", func := "compositor/compositorlaw22.FrameScaledSource", spec := "frameScaledSource", inPlace := ["math/bits.Add64", "math/bits.Sub64"], named := ["math/bits.divideError", "math/bits.overflowError", "compositor/operator.rules"], apart := false, laid := [("compositor/operator.rules", laid_compositor_operator_rules)], narrowed := true }
def FrameScaledSourceUptoSaid : Prop := frameScaledSourceUptoRow.holds Tryd.pinned (OpenSpec.upto frameScaledSourceSpec)

/-- 'compositorlaw22.FrameNests', WHERE WHAT IT READS IS OF BULK AT MOST 1048576: true; the input reads as it did. -/
def frameNestsUptoRow : OpenClaim := { program := "ytdioaiepkhepaaadoor", sum := "4f6f5f040a41c952538058e99f656aa9222bf29736100126da9da2e50f7363a0", func := "compositor/compositorlaw22.FrameNests", spec := "frameNests", inPlace := ["math/bits.Add64", "math/bits.Sub64"], named := ["math/bits.divideError", "math/bits.overflowError", "compositor/operator.rules"], apart := false, laid := [("compositor/operator.rules", laid_compositor_operator_rules)], narrowed := true }
def FrameNestsUptoSaid : Prop := frameNestsUptoRow.holds Tryd.pinned (OpenSpec.upto frameNestsSpec)

/-- 'compositorlaw22.FrameNil', WHERE WHAT IT READS IS OF BULK AT MOST 1048576: true; the input reads as it did. -/
def frameNilUptoRow : OpenClaim := { program := "ytdioaiepkhepaaadoor", sum := "4f6f5f040a41c952538058e99f656aa9222bf29736100126da9da2e50f7363a0", func := "compositor/compositorlaw22.FrameNil", spec := "frameNil", inPlace := ["math/bits.Add64", "math/bits.Sub64"], named := ["math/bits.divideError", "math/bits.overflowError", "compositor/operator.rules"], apart := false, laid := [("compositor/operator.rules", laid_compositor_operator_rules)], narrowed := true }
def FrameNilUptoSaid : Prop := frameNilUptoRow.holds Tryd.pinned (OpenSpec.upto frameNilSpec)

end Rows
end Go.Proofs.YtdioaiepkhepaaaDoor
