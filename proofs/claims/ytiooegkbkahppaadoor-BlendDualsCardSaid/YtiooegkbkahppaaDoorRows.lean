/-
  NARROWER THAN 'FOR EVERY INPUT', by the rows' own cells (each row's printed sentence says how): BlendExactAgrees: laid · BlendRejects: laid · BlendStaysInRange: laid · BlendSwaps: laid · BlendDuals: laid · BlendNeutralColours: laid · BlendStraightAgrees: laid · BlendOfTheTransparent: laid · BlendNames: laid.
  DERIVED. THE GIVEN ROWS OF THIS SEAT. 9 by the template 'for every input the law returns true; each argument reads behind the call as it read before'; 0 by the template 'total and deterministic' (their statements: YtiooegkbkahppaaDoorTotals.lean).
  GIVEN WITH THE SEED: the statements are not yours to turn. If you find one false, say at which input.
  Laid BY PROGRAM, IN A SANDBOX (cutbox-rows.mjs): the forced cells as the released guide's own fill.sh prints them over the translation 548faa7d0eb5c93d… (all of the seat's roots in one cut). By AI agents, Wed Nov 11 2026. No macro, syntax, notation, axiom, sorry.
-/
import Derived.Test.YtiooegkbkahppaaDoorChecked
import GoSem.Claim
import GoSem.ClaimJoined
import GoSem.ClaimMapViews
import Derived.JoinedTies
import Derived.KernelRfl
namespace Go.Proofs.YtiooegkbkahppaaDoor
/- THE CELL 'sum', in the pinned program and in every row, IS THE sha256 OF THE DUMP (.gsa) THAT YtiooegkbkahppaaDoorProg.lean LOADS. Nothing in Lean hashes anything: it is a label: what it is worth is what the hold of that sum in a sandbox is worth. -/
noncomputable def Tryd.pinned : Pinned := { name := "ytiooegkbkahppaadoor", sum := "548faa7d0eb5c93da65c9c9e537d80faeea817bc32093515e140e76ea612a2b0", checked := Tryd.checked }
namespace Rows
def none {H : Type} : Left H := { results := [], args := [] }

/- WHAT THE LISTED PACKAGE-LEVEL VARIABLES READ AS WHEN THE CALL BEGINS. Each datum BY PROGRAM (the guide's laid-datum.mjs) off the statement by which the dump's own 'gosem.cut.vars' lays the variable. In a bare row this is a premise. The card (YtiooegkbkahppaaDoorCards.lean) ties it to the program's text. -/
def laid_compositor_blend_names {H : Type} : DataW H := .agg [.lit (.string []), .lit (.string [110, 111, 114, 109, 97, 108]), .lit (.string [109, 117, 108, 116, 105, 112, 108, 121]), .lit (.string [115, 99, 114, 101, 101, 110]), .lit (.string [111, 118, 101, 114, 108, 97, 121]), .lit (.string [100, 97, 114, 107, 101, 110]), .lit (.string [108, 105, 103, 104, 116, 101, 110]), .lit (.string [99, 111, 108, 111, 114, 45, 100, 111, 100, 103, 101]), .lit (.string [99, 111, 108, 111, 114, 45, 98, 117, 114, 110]), .lit (.string [104, 97, 114, 100, 45, 108, 105, 103, 104, 116]), .lit (.string [115, 111, 102, 116, 45, 108, 105, 103, 104, 116]), .lit (.string [100, 105, 102, 102, 101, 114, 101, 110, 99, 101]), .lit (.string [101, 120, 99, 108, 117, 115, 105, 111, 110])]

/-- 'compositorlaw06.BlendExactAgrees': WHATEVER THE INPUT: true; the input reads as it did. -/
def blendExactAgreesSpec : ChangeSpec := { name := "blendExactAgrees", fn := fun _ => fun
  | [d1, d2, d3, d4, d5, d6, d7] => { results := [.lit (.bool true)], args := [d1, d2, d3, d4, d5, d6, d7] }
  | _ => none }
def blendExactAgreesRow : OpenClaim := { program := "ytiooegkbkahppaadoor", sum := "548faa7d0eb5c93da65c9c9e537d80faeea817bc32093515e140e76ea612a2b0", func := "compositor/compositorlaw06.BlendExactAgrees", spec := "blendExactAgrees", inPlace := ["math/bits.Add64", "math/bits.Sub64"], named := ["math/bits.divideError", "math/bits.overflowError", "compositor/blend.names"], apart := false, laid := [("compositor/blend.names", laid_compositor_blend_names)] }
def BlendExactAgreesSaid : Prop := blendExactAgreesRow.holds Tryd.pinned (OpenSpec.ofChange blendExactAgreesSpec)

/-- ITS FALSE NEIGHBOUR: 'it returns false'. Refute it at one input. -/
def blendExactAgreesWrong : ChangeSpec := { name := "blendExactAgrees", fn := fun _ => fun
  | [d1, d2, d3, d4, d5, d6, d7] => { results := [.lit (.bool false)], args := [d1, d2, d3, d4, d5, d6, d7] }
  | _ => none }
def BlendExactAgreesWrongFalsely : Prop := blendExactAgreesRow.holds Tryd.pinned (OpenSpec.ofChange blendExactAgreesWrong)

/-- 'compositorlaw06.BlendRejects': WHATEVER THE INPUT: true; the input reads as it did. -/
def blendRejectsSpec : ChangeSpec := { name := "blendRejects", fn := fun _ => fun
  | [d1, d2, d3, d4, d5, d6] => { results := [.lit (.bool true)], args := [d1, d2, d3, d4, d5, d6] }
  | _ => none }
def blendRejectsRow : OpenClaim := { program := "ytiooegkbkahppaadoor", sum := "548faa7d0eb5c93da65c9c9e537d80faeea817bc32093515e140e76ea612a2b0", func := "compositor/compositorlaw06.BlendRejects", spec := "blendRejects", inPlace := ["math/bits.Add64", "math/bits.Sub64"], named := ["math/bits.divideError", "math/bits.overflowError", "compositor/blend.names"], apart := false, laid := [("compositor/blend.names", laid_compositor_blend_names)] }
def BlendRejectsSaid : Prop := blendRejectsRow.holds Tryd.pinned (OpenSpec.ofChange blendRejectsSpec)

/-- ITS FALSE NEIGHBOUR: 'it returns false'. Refute it at one input. -/
def blendRejectsWrong : ChangeSpec := { name := "blendRejects", fn := fun _ => fun
  | [d1, d2, d3, d4, d5, d6] => { results := [.lit (.bool false)], args := [d1, d2, d3, d4, d5, d6] }
  | _ => none }
def BlendRejectsWrongFalsely : Prop := blendRejectsRow.holds Tryd.pinned (OpenSpec.ofChange blendRejectsWrong)

/-- 'compositorlaw06.BlendStaysInRange': WHATEVER THE INPUT: true; the input reads as it did. -/
def blendStaysInRangeSpec : ChangeSpec := { name := "blendStaysInRange", fn := fun _ => fun
  | [d1, d2, d3] => { results := [.lit (.bool true)], args := [d1, d2, d3] }
  | _ => none }
def blendStaysInRangeRow : OpenClaim := { program := "ytiooegkbkahppaadoor", sum := "548faa7d0eb5c93da65c9c9e537d80faeea817bc32093515e140e76ea612a2b0", func := "compositor/compositorlaw06.BlendStaysInRange", spec := "blendStaysInRange", inPlace := ["math/bits.Add64", "math/bits.Sub64"], named := ["math/bits.divideError", "math/bits.overflowError", "compositor/blend.names"], apart := false, laid := [("compositor/blend.names", laid_compositor_blend_names)] }
def BlendStaysInRangeSaid : Prop := blendStaysInRangeRow.holds Tryd.pinned (OpenSpec.ofChange blendStaysInRangeSpec)

/-- ITS FALSE NEIGHBOUR: 'it returns false'. Refute it at one input. -/
def blendStaysInRangeWrong : ChangeSpec := { name := "blendStaysInRange", fn := fun _ => fun
  | [d1, d2, d3] => { results := [.lit (.bool false)], args := [d1, d2, d3] }
  | _ => none }
def BlendStaysInRangeWrongFalsely : Prop := blendStaysInRangeRow.holds Tryd.pinned (OpenSpec.ofChange blendStaysInRangeWrong)

/-- 'compositorlaw06.BlendSwaps': WHATEVER THE INPUT: true; the input reads as it did. -/
def blendSwapsSpec : ChangeSpec := { name := "blendSwaps", fn := fun _ => fun
  | [d1, d2, d3] => { results := [.lit (.bool true)], args := [d1, d2, d3] }
  | _ => none }
def blendSwapsRow : OpenClaim := { program := "ytiooegkbkahppaadoor", sum := "548faa7d0eb5c93da65c9c9e537d80faeea817bc32093515e140e76ea612a2b0", func := "compositor/compositorlaw06.BlendSwaps", spec := "blendSwaps", inPlace := ["math/bits.Add64", "math/bits.Sub64"], named := ["math/bits.divideError", "math/bits.overflowError", "compositor/blend.names"], apart := false, laid := [("compositor/blend.names", laid_compositor_blend_names)] }
def BlendSwapsSaid : Prop := blendSwapsRow.holds Tryd.pinned (OpenSpec.ofChange blendSwapsSpec)

/-- ITS FALSE NEIGHBOUR: 'it returns false'. Refute it at one input. -/
def blendSwapsWrong : ChangeSpec := { name := "blendSwaps", fn := fun _ => fun
  | [d1, d2, d3] => { results := [.lit (.bool false)], args := [d1, d2, d3] }
  | _ => none }
def BlendSwapsWrongFalsely : Prop := blendSwapsRow.holds Tryd.pinned (OpenSpec.ofChange blendSwapsWrong)

/-- 'compositorlaw06.BlendDuals': WHATEVER THE INPUT: true; the input reads as it did. -/
def blendDualsSpec : ChangeSpec := { name := "blendDuals", fn := fun _ => fun
  | [d1, d2, d3, d4] => { results := [.lit (.bool true)], args := [d1, d2, d3, d4] }
  | _ => none }
def blendDualsRow : OpenClaim := { program := "ytiooegkbkahppaadoor", sum := "548faa7d0eb5c93da65c9c9e537d80faeea817bc32093515e140e76ea612a2b0", func := "compositor/compositorlaw06.BlendDuals", spec := "blendDuals", inPlace := ["math/bits.Add64", "math/bits.Sub64"], named := ["math/bits.divideError", "math/bits.overflowError", "compositor/blend.names"], apart := false, laid := [("compositor/blend.names", laid_compositor_blend_names)] }
def BlendDualsSaid : Prop := blendDualsRow.holds Tryd.pinned (OpenSpec.ofChange blendDualsSpec)

/-- ITS FALSE NEIGHBOUR: 'it returns false'. Refute it at one input. -/
def blendDualsWrong : ChangeSpec := { name := "blendDuals", fn := fun _ => fun
  | [d1, d2, d3, d4] => { results := [.lit (.bool false)], args := [d1, d2, d3, d4] }
  | _ => none }
def BlendDualsWrongFalsely : Prop := blendDualsRow.holds Tryd.pinned (OpenSpec.ofChange blendDualsWrong)

/-- 'compositorlaw06.BlendNeutralColours': WHATEVER THE INPUT: true; the input reads as it did. -/
def blendNeutralColoursSpec : ChangeSpec := { name := "blendNeutralColours", fn := fun _ => fun
  | [d1, d2, d3] => { results := [.lit (.bool true)], args := [d1, d2, d3] }
  | _ => none }
def blendNeutralColoursRow : OpenClaim := { program := "ytiooegkbkahppaadoor", sum := "548faa7d0eb5c93da65c9c9e537d80faeea817bc32093515e140e76ea612a2b0", func := "compositor/compositorlaw06.BlendNeutralColours", spec := "blendNeutralColours", inPlace := ["math/bits.Add64", "math/bits.Sub64"], named := ["math/bits.divideError", "math/bits.overflowError", "compositor/blend.names"], apart := false, laid := [("compositor/blend.names", laid_compositor_blend_names)] }
def BlendNeutralColoursSaid : Prop := blendNeutralColoursRow.holds Tryd.pinned (OpenSpec.ofChange blendNeutralColoursSpec)

/-- ITS FALSE NEIGHBOUR: 'it returns false'. Refute it at one input. -/
def blendNeutralColoursWrong : ChangeSpec := { name := "blendNeutralColours", fn := fun _ => fun
  | [d1, d2, d3] => { results := [.lit (.bool false)], args := [d1, d2, d3] }
  | _ => none }
def BlendNeutralColoursWrongFalsely : Prop := blendNeutralColoursRow.holds Tryd.pinned (OpenSpec.ofChange blendNeutralColoursWrong)

/-- 'compositorlaw06.BlendStraightAgrees': WHATEVER THE INPUT: true; the input reads as it did. -/
def blendStraightAgreesSpec : ChangeSpec := { name := "blendStraightAgrees", fn := fun _ => fun
  | [d1, d2, d3, d4, d5] => { results := [.lit (.bool true)], args := [d1, d2, d3, d4, d5] }
  | _ => none }
def blendStraightAgreesRow : OpenClaim := { program := "ytiooegkbkahppaadoor", sum := "548faa7d0eb5c93da65c9c9e537d80faeea817bc32093515e140e76ea612a2b0", func := "compositor/compositorlaw06.BlendStraightAgrees", spec := "blendStraightAgrees", inPlace := ["math/bits.Add64", "math/bits.Sub64"], named := ["math/bits.divideError", "math/bits.overflowError", "compositor/blend.names"], apart := false, laid := [("compositor/blend.names", laid_compositor_blend_names)] }
def BlendStraightAgreesSaid : Prop := blendStraightAgreesRow.holds Tryd.pinned (OpenSpec.ofChange blendStraightAgreesSpec)

/-- ITS FALSE NEIGHBOUR: 'it returns false'. Refute it at one input. -/
def blendStraightAgreesWrong : ChangeSpec := { name := "blendStraightAgrees", fn := fun _ => fun
  | [d1, d2, d3, d4, d5] => { results := [.lit (.bool false)], args := [d1, d2, d3, d4, d5] }
  | _ => none }
def BlendStraightAgreesWrongFalsely : Prop := blendStraightAgreesRow.holds Tryd.pinned (OpenSpec.ofChange blendStraightAgreesWrong)

/-- 'compositorlaw06.BlendOfTheTransparent': WHATEVER THE INPUT: true; the input reads as it did. -/
def blendOfTheTransparentSpec : ChangeSpec := { name := "blendOfTheTransparent", fn := fun _ => fun
  | [d1, d2, d3] => { results := [.lit (.bool true)], args := [d1, d2, d3] }
  | _ => none }
def blendOfTheTransparentRow : OpenClaim := { program := "ytiooegkbkahppaadoor", sum := "548faa7d0eb5c93da65c9c9e537d80faeea817bc32093515e140e76ea612a2b0", func := "compositor/compositorlaw06.BlendOfTheTransparent", spec := "blendOfTheTransparent", inPlace := ["math/bits.Add64", "math/bits.Sub64"], named := ["math/bits.divideError", "math/bits.overflowError", "compositor/blend.names"], apart := false, laid := [("compositor/blend.names", laid_compositor_blend_names)] }
def BlendOfTheTransparentSaid : Prop := blendOfTheTransparentRow.holds Tryd.pinned (OpenSpec.ofChange blendOfTheTransparentSpec)

/-- ITS FALSE NEIGHBOUR: 'it returns false'. Refute it at one input. -/
def blendOfTheTransparentWrong : ChangeSpec := { name := "blendOfTheTransparent", fn := fun _ => fun
  | [d1, d2, d3] => { results := [.lit (.bool false)], args := [d1, d2, d3] }
  | _ => none }
def BlendOfTheTransparentWrongFalsely : Prop := blendOfTheTransparentRow.holds Tryd.pinned (OpenSpec.ofChange blendOfTheTransparentWrong)

/-- 'compositorlaw06.BlendNames': WHATEVER THE INPUT: true; the input reads as it did. -/
def blendNamesSpec : ChangeSpec := { name := "blendNames", fn := fun _ => fun
  | [d1, d2] => { results := [.lit (.bool true)], args := [d1, d2] }
  | _ => none }
def blendNamesRow : OpenClaim := { program := "ytiooegkbkahppaadoor", sum := "548faa7d0eb5c93da65c9c9e537d80faeea817bc32093515e140e76ea612a2b0", func := "compositor/compositorlaw06.BlendNames", spec := "blendNames", inPlace := ["math/bits.Add64", "math/bits.Sub64"], named := ["compositor/blend.names", "math/bits.divideError", "math/bits.overflowError"], apart := false, laid := [("compositor/blend.names", laid_compositor_blend_names)] }
def BlendNamesSaid : Prop := blendNamesRow.holds Tryd.pinned (OpenSpec.ofChange blendNamesSpec)

/-- ITS FALSE NEIGHBOUR: 'it returns false'. Refute it at one input. -/
def blendNamesWrong : ChangeSpec := { name := "blendNames", fn := fun _ => fun
  | [d1, d2] => { results := [.lit (.bool false)], args := [d1, d2] }
  | _ => none }
def BlendNamesWrongFalsely : Prop := blendNamesRow.holds Tryd.pinned (OpenSpec.ofChange blendNamesWrong)

/- THE SECOND FORM. 'bulk': how many values and letters a reading holds, each counted each time it is reached (what is shared counts as often as it is met; a slice's spare places count too). A statement '..UptoSaid' is the law's where the arguments, and the package variables that the reading takes, are together of bulk at most 1048576: NARROWER than '..Said'. Prove '..Said' where nothing that the law and all that it calls make is longer than what came in: it says more and counts as full. Else prove '..UptoSaid'. A law counts once. -/
mutual
def uptoBulk {H : Type} : DataW H → Nat
  | .lit (.string bytes) => bytes.length + 1
  | .lit _ => 1
  | .nil => 1
  | .ptr d => uptoBulk d + 1
  | .slice elems spare => uptoBulkAll elems + uptoBulkAll spare + 1
  | .agg parts => uptoBulkAll parts + 1
  | .iface _ d => uptoBulk d + 1
  | .map entries => uptoBulkEntries entries + 1
  | .held _ => 1
def uptoBulkAll {H : Type} : List (DataW H) → Nat
  | [] => 0
  | d :: r => uptoBulk d + uptoBulkAll r
def uptoBulkEntries {H : Type} : List (Lit × DataW H) → Nat
  | [] => 0
  | x :: r => uptoBulkEntry x + uptoBulkEntries r
def uptoBulkEntry {H : Type} : Lit × DataW H → Nat
  | (.string bytes, d) => bytes.length + uptoBulk d + 1
  | (_, d) => uptoBulk d + 1
 end
def uptoSmall : (H : Type) → List (DataW H) → Bool := fun _ ds => decide (uptoBulkAll ds ≤ 1048576)
def OpenSpec.upto (s : _root_.Go.ChangeSpec) : _root_.Go.OpenSpec := { _root_.Go.OpenSpec.ofChange s with cond := some uptoSmall }

/-- 'compositorlaw06.BlendExactAgrees', WHERE WHAT IT READS IS OF BULK AT MOST 1048576: true; the input reads as it did. -/
def blendExactAgreesUptoRow : OpenClaim := { program := "ytiooegkbkahppaadoor", sum := "548faa7d0eb5c93da65c9c9e537d80faeea817bc32093515e140e76ea612a2b0", func := "compositor/compositorlaw06.BlendExactAgrees", spec := "blendExactAgrees", inPlace := ["math/bits.Add64", "math/bits.Sub64"], named := ["math/bits.divideError", "math/bits.overflowError", "compositor/blend.names"], apart := false, laid := [("compositor/blend.names", laid_compositor_blend_names)], narrowed := true }
def BlendExactAgreesUptoSaid : Prop := blendExactAgreesUptoRow.holds Tryd.pinned (OpenSpec.upto blendExactAgreesSpec)

/-- 'compositorlaw06.BlendRejects', WHERE WHAT IT READS IS OF BULK AT MOST 1048576: true; the input reads as it did. -/
def blendRejectsUptoRow : OpenClaim := { program := "ytiooegkbkahppaadoor", sum := "548faa7d0eb5c93da65c9c9e537d80faeea817bc32093515e140e76ea612a2b0", func := "compositor/compositorlaw06.BlendRejects", spec := "blendRejects", inPlace := ["math/bits.Add64", "math/bits.Sub64"], named := ["math/bits.divideError", "math/bits.overflowError", "compositor/blend.names"], apart := false, laid := [("compositor/blend.names", laid_compositor_blend_names)], narrowed := true }
def BlendRejectsUptoSaid : Prop := blendRejectsUptoRow.holds Tryd.pinned (OpenSpec.upto blendRejectsSpec)

/-- 'compositorlaw06.BlendStaysInRange', WHERE WHAT IT READS IS OF BULK AT MOST 1048576: true; the input reads as it did. -/
def blendStaysInRangeUptoRow : OpenClaim := { program := "ytiooegkbkahppaadoor", sum := "548faa7d0eb5c93da65c9c9e537d80faeea817bc32093515e140e76ea612a2b0", func := "compositor/compositorlaw06.BlendStaysInRange", spec := "blendStaysInRange", inPlace := ["math/bits.Add64", "math/bits.Sub64"], named := ["math/bits.divideError", "math/bits.overflowError", "compositor/blend.names"], apart := false, laid := [("compositor/blend.names", laid_compositor_blend_names)], narrowed := true }
def BlendStaysInRangeUptoSaid : Prop := blendStaysInRangeUptoRow.holds Tryd.pinned (OpenSpec.upto blendStaysInRangeSpec)

/-- 'compositorlaw06.BlendSwaps', WHERE WHAT IT READS IS OF BULK AT MOST 1048576: true; the input reads as it did. -/
def blendSwapsUptoRow : OpenClaim := { program := "ytiooegkbkahppaadoor", sum := "548faa7d0eb5c93da65c9c9e537d80faeea817bc32093515e140e76ea612a2b0", func := "compositor/compositorlaw06.BlendSwaps", spec := "blendSwaps", inPlace := ["math/bits.Add64", "math/bits.Sub64"], named := ["math/bits.divideError", "math/bits.overflowError", "compositor/blend.names"], apart := false, laid := [("compositor/blend.names", laid_compositor_blend_names)], narrowed := true }
def BlendSwapsUptoSaid : Prop := blendSwapsUptoRow.holds Tryd.pinned (OpenSpec.upto blendSwapsSpec)

/-- 'compositorlaw06.BlendDuals', WHERE WHAT IT READS IS OF BULK AT MOST 1048576: true; the input reads as it did. -/
def blendDualsUptoRow : OpenClaim := { program := "ytiooegkbkahppaadoor", sum := "548faa7d0eb5c93da65c9c9e537d80faeea817bc32093515e140e76ea612a2b0", func := "compositor/compositorlaw06.BlendDuals", spec := "blendDuals", inPlace := ["math/bits.Add64", "math/bits.Sub64"], named := ["math/bits.divideError", "math/bits.overflowError", "compositor/blend.names"], apart := false, laid := [("compositor/blend.names", laid_compositor_blend_names)], narrowed := true }
def BlendDualsUptoSaid : Prop := blendDualsUptoRow.holds Tryd.pinned (OpenSpec.upto blendDualsSpec)

/-- 'compositorlaw06.BlendNeutralColours', WHERE WHAT IT READS IS OF BULK AT MOST 1048576: true; the input reads as it did. -/
def blendNeutralColoursUptoRow : OpenClaim := { program := "ytiooegkbkahppaadoor", sum := "548faa7d0eb5c93da65c9c9e537d80faeea817bc32093515e140e76ea612a2b0", func := "compositor/compositorlaw06.BlendNeutralColours", spec := "blendNeutralColours", inPlace := ["math/bits.Add64", "math/bits.Sub64"], named := ["math/bits.divideError", "math/bits.overflowError", "compositor/blend.names"], apart := false, laid := [("compositor/blend.names", laid_compositor_blend_names)], narrowed := true }
def BlendNeutralColoursUptoSaid : Prop := blendNeutralColoursUptoRow.holds Tryd.pinned (OpenSpec.upto blendNeutralColoursSpec)

/-- 'compositorlaw06.BlendStraightAgrees', WHERE WHAT IT READS IS OF BULK AT MOST 1048576: true; the input reads as it did. -/
def blendStraightAgreesUptoRow : OpenClaim := { program := "ytiooegkbkahppaadoor", sum := "548faa7d0eb5c93da65c9c9e537d80faeea817bc32093515e140e76ea612a2b0", func := "compositor/compositorlaw06.BlendStraightAgrees", spec := "blendStraightAgrees", inPlace := ["math/bits.Add64", "math/bits.Sub64"], named := ["math/bits.divideError", "math/bits.overflowError", "compositor/blend.names"], apart := false, laid := [("compositor/blend.names", laid_compositor_blend_names)], narrowed := true }
def BlendStraightAgreesUptoSaid : Prop := blendStraightAgreesUptoRow.holds Tryd.pinned (OpenSpec.upto blendStraightAgreesSpec)

/-- 'compositorlaw06.BlendOfTheTransparent', WHERE WHAT IT READS IS OF BULK AT MOST 1048576: true; the input reads as it did. -/
def blendOfTheTransparentUptoRow : OpenClaim := { program := "ytiooegkbkahppaadoor", sum := "548faa7d0eb5c93da65c9c9e537d80faeea817bc32093515e140e76ea612a2b0", func := "compositor/compositorlaw06.BlendOfTheTransparent", spec := "blendOfTheTransparent", inPlace := ["math/bits.Add64", "math/bits.Sub64"], named := ["math/bits.divideError", "math/bits.overflowError", "compositor/blend.names"], apart := false, laid := [("compositor/blend.names", laid_compositor_blend_names)], narrowed := true }
def BlendOfTheTransparentUptoSaid : Prop := blendOfTheTransparentUptoRow.holds Tryd.pinned (OpenSpec.upto blendOfTheTransparentSpec)

/-- 'compositorlaw06.BlendNames', WHERE WHAT IT READS IS OF BULK AT MOST 1048576: true; the input reads as it did. -/
def blendNamesUptoRow : OpenClaim := { program := "ytiooegkbkahppaadoor", sum := "548faa7d0eb5c93da65c9c9e537d80faeea817bc32093515e140e76ea612a2b0", func := "compositor/compositorlaw06.BlendNames", spec := "blendNames", inPlace := ["math/bits.Add64", "math/bits.Sub64"], named := ["compositor/blend.names", "math/bits.divideError", "math/bits.overflowError"], apart := false, laid := [("compositor/blend.names", laid_compositor_blend_names)], narrowed := true }
def BlendNamesUptoSaid : Prop := blendNamesUptoRow.holds Tryd.pinned (OpenSpec.upto blendNamesSpec)

end Rows
end Go.Proofs.YtiooegkbkahppaaDoor
