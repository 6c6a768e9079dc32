/-
  NARROWER THAN 'FOR EVERY INPUT', by the rows' own cells (each row's printed sentence says how): FrameAgrees: laid · FrameRejectsWithoutEffect: laid · FrameForksApart: laid.
  DERIVED. THE GIVEN ROWS OF THIS SEAT. 3 by the template 'for every input the law returns true; each argument reads behind the call as it read before'; 0 by the template 'total and deterministic' (their statements: YtdioaiepkhepaaaGreatDoorTotals.lean).
  GIVEN WITH THE SEED: the statements are not yours to turn. If you find one false, say at which input.
  Laid BY PROGRAM, IN A SANDBOX (cutbox-rows.mjs): the forced cells as the released guide's own fill.sh prints them over the translation 7b767e0d44223f5a… (all of the seat's roots in one cut). By AI agents, Wed Nov 11 2026. No macro, syntax, notation, axiom, sorry.
-/
import Derived.Test.YtdioaiepkhepaaaGreatDoorChecked
import GoSem.Claim
import GoSem.ClaimJoined
import GoSem.ClaimMapViews
import Derived.JoinedTies
import Derived.KernelRfl
namespace Go.Proofs.YtdioaiepkhepaaaGreatDoor
/- THE CELL 'sum', in the pinned program and in every row, IS THE sha256 OF THE DUMP (.gsa) THAT YtdioaiepkhepaaaGreatDoorProg.lean LOADS. Nothing in Lean hashes anything: it is a label: what it is worth is what the hold of that sum in a sandbox is worth. -/
noncomputable def Tryz.pinned : Pinned := { name := "ytdioaiepkhepaaagreatdoor", sum := "7b767e0d44223f5a3c4a97c855303431ffd72fae01a4c126ab10a4652bfe1335", checked := Tryz.checked }
namespace Rows
def none {H : Type} : Left H := { results := [], args := [] }

/- WHAT THE LISTED PACKAGE-LEVEL VARIABLES READ AS WHEN THE CALL BEGINS. Each datum BY PROGRAM (the guide's laid-datum.mjs) off the statement by which the dump's own 'gosem.cut.vars' lays the variable. In a bare row this is a premise. The card (YtdioaiepkhepaaaGreatDoorCards.lean) ties it to the program's text. -/
def laid_compositor_operator_rules {H : Type} : DataW H := .agg [.agg [.lit (.string []), .lit (.int .i64 0), .lit (.int .i64 0), .lit (.int .i64 0)], .agg [.lit (.string [99, 108, 101, 97, 114]), .lit (.int .i64 0), .lit (.int .i64 0), .lit (.int .i64 0)], .agg [.lit (.string [115, 114, 99]), .lit (.int .i64 1), .lit (.int .i64 0), .lit (.int .i64 1)], .agg [.lit (.string [100, 115, 116]), .lit (.int .i64 0), .lit (.int .i64 1), .lit (.int .i64 2)], .agg [.lit (.string [115, 114, 99, 45, 111, 118, 101, 114]), .lit (.int .i64 1), .lit (.int .i64 3), .lit (.int .i64 3)], .agg [.lit (.string [100, 115, 116, 45, 111, 118, 101, 114]), .lit (.int .i64 3), .lit (.int .i64 1), .lit (.int .i64 3)], .agg [.lit (.string [115, 114, 99, 45, 105, 110]), .lit (.int .i64 2), .lit (.int .i64 0), .lit (.int .i64 4)], .agg [.lit (.string [100, 115, 116, 45, 105, 110]), .lit (.int .i64 0), .lit (.int .i64 2), .lit (.int .i64 4)], .agg [.lit (.string [115, 114, 99, 45, 111, 117, 116]), .lit (.int .i64 3), .lit (.int .i64 0), .lit (.int .i64 1)], .agg [.lit (.string [100, 115, 116, 45, 111, 117, 116]), .lit (.int .i64 0), .lit (.int .i64 3), .lit (.int .i64 2)], .agg [.lit (.string [115, 114, 99, 45, 97, 116, 111, 112]), .lit (.int .i64 2), .lit (.int .i64 3), .lit (.int .i64 2)], .agg [.lit (.string [100, 115, 116, 45, 97, 116, 111, 112]), .lit (.int .i64 3), .lit (.int .i64 2), .lit (.int .i64 1)], .agg [.lit (.string [120, 111, 114]), .lit (.int .i64 3), .lit (.int .i64 3), .lit (.int .i64 3)]]

/-- 'compositorlaw22.FrameAgrees': WHATEVER THE INPUT: true; the input reads as it did. -/
def frameAgreesSpec : ChangeSpec := { name := "frameAgrees", fn := fun _ => fun
  | [d1, d2, d3] => { results := [.lit (.bool true)], args := [d1, d2, d3] }
  | _ => none }
def frameAgreesRow : OpenClaim := { program := "ytdioaiepkhepaaagreatdoor", sum := "7b767e0d44223f5a3c4a97c855303431ffd72fae01a4c126ab10a4652bfe1335", func := "compositor/compositorlaw22.FrameAgrees", spec := "frameAgrees", inPlace := ["math/bits.Add64", "math/bits.Sub64"], named := ["math/bits.divideError", "math/bits.overflowError", "compositor/operator.rules"], apart := false, laid := [("compositor/operator.rules", laid_compositor_operator_rules)] }
def FrameAgreesSaid : Prop := frameAgreesRow.holds Tryz.pinned (OpenSpec.ofChange frameAgreesSpec)

/-- ITS FALSE NEIGHBOUR: 'it returns false'. Refute it at one input. -/
def frameAgreesWrong : ChangeSpec := { name := "frameAgrees", fn := fun _ => fun
  | [d1, d2, d3] => { results := [.lit (.bool false)], args := [d1, d2, d3] }
  | _ => none }
def FrameAgreesWrongFalsely : Prop := frameAgreesRow.holds Tryz.pinned (OpenSpec.ofChange frameAgreesWrong)

/-- 'compositorlaw22.FrameRejectsWithoutEffect': WHATEVER THE INPUT: true; the input reads as it did. -/
def frameRejectsWithoutEffectSpec : ChangeSpec := { name := "frameRejectsWithoutEffect", fn := fun _ => fun
  | [d1, d2, d3] => { results := [.lit (.bool true)], args := [d1, d2, d3] }
  | _ => none }
def frameRejectsWithoutEffectRow : OpenClaim := { program := "ytdioaiepkhepaaagreatdoor", sum := "7b767e0d44223f5a3c4a97c855303431ffd72fae01a4c126ab10a4652bfe1335", func := "compositor/compositorlaw22.FrameRejectsWithoutEffect", spec := "frameRejectsWithoutEffect", inPlace := ["math/bits.Add64", "math/bits.Sub64"], named := ["math/bits.divideError", "math/bits.overflowError", "compositor/operator.rules"], apart := false, laid := [("compositor/operator.rules", laid_compositor_operator_rules)] }
def FrameRejectsWithoutEffectSaid : Prop := frameRejectsWithoutEffectRow.holds Tryz.pinned (OpenSpec.ofChange frameRejectsWithoutEffectSpec)

/-- ITS FALSE NEIGHBOUR: 'it returns false'. Refute it at one input. -/
def frameRejectsWithoutEffectWrong : ChangeSpec := { name := "frameRejectsWithoutEffect", fn := fun _ => fun
  | [d1, d2, d3] => { results := [.lit (.bool false)], args := [d1, d2, d3] }
  | _ => none }
def FrameRejectsWithoutEffectWrongFalsely : Prop := frameRejectsWithoutEffectRow.holds Tryz.pinned (OpenSpec.ofChange frameRejectsWithoutEffectWrong)

/-- 'compositorlaw22.FrameForksApart': WHATEVER THE INPUT: true; the input reads as it did. -/
def frameForksApartSpec : ChangeSpec := { name := "frameForksApart", fn := fun _ => fun
  | [d1, d2, d3] => { results := [.lit (.bool true)], args := [d1, d2, d3] }
  | _ => none }
def frameForksApartRow : OpenClaim := { program := "ytdioaiepkhepaaagreatdoor", sum := "7b767e0d44223f5a3c4a97c855303431ffd72fae01a4c126ab10a4652bfe1335", func := "compositor/compositorlaw22.FrameForksApart", spec := "frameForksApart", inPlace := ["math/bits.Add64", "math/bits.Sub64"], named := ["math/bits.divideError", "math/bits.overflowError", "compositor/operator.rules"], apart := false, laid := [("compositor/operator.rules", laid_compositor_operator_rules)] }
def FrameForksApartSaid : Prop := frameForksApartRow.holds Tryz.pinned (OpenSpec.ofChange frameForksApartSpec)

/-- ITS FALSE NEIGHBOUR: 'it returns false'. Refute it at one input. -/
def frameForksApartWrong : ChangeSpec := { name := "frameForksApart", fn := fun _ => fun
  | [d1, d2, d3] => { results := [.lit (.bool false)], args := [d1, d2, d3] }
  | _ => none }
def FrameForksApartWrongFalsely : Prop := frameForksApartRow.holds Tryz.pinned (OpenSpec.ofChange frameForksApartWrong)

/- THE SECOND FORM. 'bulk': how many values and letters a reading holds, each counted each time it is reached (what is shared counts as often as it is met; a slice's spare places count too). A statement '..UptoSaid' is the law's where the arguments, and the package variables that the reading takes, are together of bulk at most 1048576: NARROWER than '..Said'. Prove '..Said' where nothing that the law and all that it calls make is longer than what came in: it says more and counts as full. Else prove '..UptoSaid'. A law counts once. -/
mutual
def uptoBulk {H : Type} : DataW H → Nat
  | .lit (.string bytes) => bytes.length + 1
  | .lit _ => 1
  | .nil => 1
  | .ptr d => uptoBulk d + 1
  | .slice elems spare => uptoBulkAll elems + uptoBulkAll spare + 1
  | .agg parts => uptoBulkAll parts + 1
  | .iface _ d => uptoBulk d + 1
  | .map entries => uptoBulkEntries entries + 1
  | .held _ => 1
def uptoBulkAll {H : Type} : List (DataW H) → Nat
  | [] => 0
  | d :: r => uptoBulk d + uptoBulkAll r
def uptoBulkEntries {H : Type} : List (Lit × DataW H) → Nat
  | [] => 0
  | x :: r => uptoBulkEntry x + uptoBulkEntries r
def uptoBulkEntry {H : Type} : Lit × DataW H → Nat
  | (.string bytes, d) => bytes.length + uptoBulk d + 1
  | (_, d) => uptoBulk d + 1
 end
def uptoSmall : (H : Type) → List (DataW H) → Bool := fun _ ds => decide (uptoBulkAll ds ≤ 1048576)
def OpenSpec.upto (s : _root_.Go.ChangeSpec) : _root_.Go.OpenSpec := { _root_.Go.OpenSpec.ofChange s with cond := some uptoSmall }

/-- 'compositorlaw22.FrameAgrees', WHERE WHAT IT READS IS OF BULK AT MOST 1048576: true; the input reads as it did. -/
def frameAgreesUptoRow : OpenClaim := { program := "ytdioaiepkhepaaagreatdoor", sum := "7b767e0d44223f5a3c4a97c855303431ffd72fae01a4c126ab10a4652bfe1335", func := "compositor/compositorlaw22.FrameAgrees", spec := "frameAgrees", inPlace := ["math/bits.Add64", "math/bits.Sub64"], named := ["math/bits.divideError", "math/bits.overflowError", "compositor/operator.rules"], apart := false, laid := [("compositor/operator.rules", laid_compositor_operator_rules)], narrowed := true }
def FrameAgreesUptoSaid : Prop := frameAgreesUptoRow.holds Tryz.pinned (OpenSpec.upto frameAgreesSpec)

/-- 'compositorlaw22.FrameRejectsWithoutEffect', WHERE WHAT IT READS IS OF BULK AT MOST 1048576: true; the input reads as it did. -/
def frameRejectsWithoutEffectUptoRow : OpenClaim := { program := "ytdioaiepkhepaaagreatdoor", sum := "7b767e0d44223f5a3c4a97c855303431ffd72fae01a4c126ab10a4652bfe1335", func := "compositor/compositorlaw22.FrameRejectsWithoutEffect", spec := "frameRejectsWithoutEffect", inPlace := ["math/bits.Add64", "math/bits.Sub64"], named := ["math/bits.divideError", "math/bits.overflowError", "compositor/operator.rules"], apart := false, laid := [("compositor/operator.rules", laid_compositor_operator_rules)], narrowed := true }
def FrameRejectsWithoutEffectUptoSaid : Prop := frameRejectsWithoutEffectUptoRow.holds Tryz.pinned (OpenSpec.upto frameRejectsWithoutEffectSpec)

/-- 'compositorlaw22.FrameForksApart', WHERE WHAT IT READS IS OF BULK AT MOST 1048576: true; the input reads as it did. -/
def frameForksApartUptoRow : OpenClaim := { program := "ytdioaiepkhepaaagreatdoor", sum := "7b767e0d44223f5a3c4a97c855303431ffd72fae01a4c126ab10a4652bfe1335", func := "compositor/compositorlaw22.FrameForksApart", spec := "frameForksApart", inPlace := ["math/bits.Add64", "math/bits.Sub64"], named := ["math/bits.divideError", "math/bits.overflowError", "compositor/operator.rules"], apart := false, laid := [("compositor/operator.rules", laid_compositor_operator_rules)], narrowed := true }
def FrameForksApartUptoSaid : Prop := frameForksApartUptoRow.holds Tryz.pinned (OpenSpec.upto frameForksApartSpec)

end Rows
end Go.Proofs.YtdioaiepkhepaaaGreatDoor
