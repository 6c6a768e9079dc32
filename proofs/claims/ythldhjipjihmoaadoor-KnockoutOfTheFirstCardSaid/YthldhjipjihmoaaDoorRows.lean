/-
  NARROWER THAN 'FOR EVERY INPUT', by the rows' own cells (each row's printed sentence says how): MixAgrees: laid · MixAgreesForAll: laid · MixValueAgrees: laid · MixNormalIsTheClassic: laid · MixIgnoresModeWithoutOverlap: laid · MixOfOpaqueColours: laid · KnockoutKeepsOrder: laid · MixColourBelowAlpha: laid · KnockoutOfTheFirst: laid.
  DERIVED. THE GIVEN ROWS OF THIS SEAT. 9 by the template 'for every input the law returns true; each argument reads behind the call as it read before'; 0 by the template 'total and deterministic' (their statements: YthldhjipjihmoaaDoorTotals.lean).
  GIVEN WITH THE SEED: the statements are not yours to turn. If you find one false, say at which input.
  Laid BY PROGRAM, IN A SANDBOX (cutbox-rows.mjs): the forced cells as the released guide's own fill.sh prints them over the translation dade9609152f7066… (all of the seat's roots in one cut). By AI agents, Wed Nov 11 2026. No macro, syntax, notation, axiom, sorry.
-/
import Derived.Test.YthldhjipjihmoaaDoorChecked
import GoSem.Claim
import GoSem.ClaimJoined
import GoSem.ClaimMapViews
import Derived.JoinedTies
import Derived.KernelRfl
namespace Go.Proofs.YthldhjipjihmoaaDoor
/- THE CELL 'sum', in the pinned program and in every row, IS THE sha256 OF THE DUMP (.gsa) THAT YthldhjipjihmoaaDoorProg.lean LOADS. Nothing in Lean hashes anything: it is a label: what it is worth is what the hold of that sum in a sandbox is worth. -/
noncomputable def Tryd.pinned : Pinned := { name := "ythldhjipjihmoaadoor", sum := "dade9609152f7066f6a56082365d0faf3394821a24db10c4d8eea6348f9e554a", checked := Tryd.checked }
namespace Rows
def none {H : Type} : Left H := { results := [], args := [] }

/- WHAT THE LISTED PACKAGE-LEVEL VARIABLES READ AS WHEN THE CALL BEGINS. Each datum BY PROGRAM (the guide's laid-datum.mjs) off the statement by which the dump's own 'gosem.cut.vars' lays the variable. In a bare row this is a premise. The card (YthldhjipjihmoaaDoorCards.lean) ties it to the program's text. -/
def laid_compositor_operator_rules {H : Type} : DataW H := .agg [.agg [.lit (.string []), .lit (.int .i64 0), .lit (.int .i64 0), .lit (.int .i64 0)], .agg [.lit (.string [99, 108, 101, 97, 114]), .lit (.int .i64 0), .lit (.int .i64 0), .lit (.int .i64 0)], .agg [.lit (.string [115, 114, 99]), .lit (.int .i64 1), .lit (.int .i64 0), .lit (.int .i64 1)], .agg [.lit (.string [100, 115, 116]), .lit (.int .i64 0), .lit (.int .i64 1), .lit (.int .i64 2)], .agg [.lit (.string [115, 114, 99, 45, 111, 118, 101, 114]), .lit (.int .i64 1), .lit (.int .i64 3), .lit (.int .i64 3)], .agg [.lit (.string [100, 115, 116, 45, 111, 118, 101, 114]), .lit (.int .i64 3), .lit (.int .i64 1), .lit (.int .i64 3)], .agg [.lit (.string [115, 114, 99, 45, 105, 110]), .lit (.int .i64 2), .lit (.int .i64 0), .lit (.int .i64 4)], .agg [.lit (.string [100, 115, 116, 45, 105, 110]), .lit (.int .i64 0), .lit (.int .i64 2), .lit (.int .i64 4)], .agg [.lit (.string [115, 114, 99, 45, 111, 117, 116]), .lit (.int .i64 3), .lit (.int .i64 0), .lit (.int .i64 1)], .agg [.lit (.string [100, 115, 116, 45, 111, 117, 116]), .lit (.int .i64 0), .lit (.int .i64 3), .lit (.int .i64 2)], .agg [.lit (.string [115, 114, 99, 45, 97, 116, 111, 112]), .lit (.int .i64 2), .lit (.int .i64 3), .lit (.int .i64 2)], .agg [.lit (.string [100, 115, 116, 45, 97, 116, 111, 112]), .lit (.int .i64 3), .lit (.int .i64 2), .lit (.int .i64 1)], .agg [.lit (.string [120, 111, 114]), .lit (.int .i64 3), .lit (.int .i64 3), .lit (.int .i64 3)]]

/-- 'compositorlaw08.MixAgrees': WHATEVER THE INPUT: true; the input reads as it did. -/
def mixAgreesSpec : ChangeSpec := { name := "mixAgrees", fn := fun _ => fun
  | [d1, d2, d3, d4] => { results := [.lit (.bool true)], args := [d1, d2, d3, d4] }
  | _ => none }
def mixAgreesRow : OpenClaim := { program := "ythldhjipjihmoaadoor", sum := "dade9609152f7066f6a56082365d0faf3394821a24db10c4d8eea6348f9e554a", func := "compositor/compositorlaw08.MixAgrees", spec := "mixAgrees", inPlace := ["math/bits.Add64", "math/bits.Sub64"], named := ["compositor/operator.rules", "math/bits.divideError", "math/bits.overflowError"], apart := false, laid := [("compositor/operator.rules", laid_compositor_operator_rules)] }
def MixAgreesSaid : Prop := mixAgreesRow.holds Tryd.pinned (OpenSpec.ofChange mixAgreesSpec)

/-- ITS FALSE NEIGHBOUR: 'it returns false'. Refute it at one input. -/
def mixAgreesWrong : ChangeSpec := { name := "mixAgrees", fn := fun _ => fun
  | [d1, d2, d3, d4] => { results := [.lit (.bool false)], args := [d1, d2, d3, d4] }
  | _ => none }
def MixAgreesWrongFalsely : Prop := mixAgreesRow.holds Tryd.pinned (OpenSpec.ofChange mixAgreesWrong)

/-- 'compositorlaw08.MixAgreesForAll': WHATEVER THE INPUT: true; the input reads as it did. -/
def mixAgreesForAllSpec : ChangeSpec := { name := "mixAgreesForAll", fn := fun _ => fun
  | [d1, d2, d3, d4, d5, d6, d7, d8] => { results := [.lit (.bool true)], args := [d1, d2, d3, d4, d5, d6, d7, d8] }
  | _ => none }
def mixAgreesForAllRow : OpenClaim := { program := "ythldhjipjihmoaadoor", sum := "dade9609152f7066f6a56082365d0faf3394821a24db10c4d8eea6348f9e554a", func := "compositor/compositorlaw08.MixAgreesForAll", spec := "mixAgreesForAll", inPlace := ["math/bits.Add64", "math/bits.Sub64"], named := ["compositor/operator.rules", "math/bits.divideError", "math/bits.overflowError"], apart := false, laid := [("compositor/operator.rules", laid_compositor_operator_rules)] }
def MixAgreesForAllSaid : Prop := mixAgreesForAllRow.holds Tryd.pinned (OpenSpec.ofChange mixAgreesForAllSpec)

/-- ITS FALSE NEIGHBOUR: 'it returns false'. Refute it at one input. -/
def mixAgreesForAllWrong : ChangeSpec := { name := "mixAgreesForAll", fn := fun _ => fun
  | [d1, d2, d3, d4, d5, d6, d7, d8] => { results := [.lit (.bool false)], args := [d1, d2, d3, d4, d5, d6, d7, d8] }
  | _ => none }
def MixAgreesForAllWrongFalsely : Prop := mixAgreesForAllRow.holds Tryd.pinned (OpenSpec.ofChange mixAgreesForAllWrong)

/-- 'compositorlaw08.MixValueAgrees': WHATEVER THE INPUT: true; the input reads as it did. -/
def mixValueAgreesSpec : ChangeSpec := { name := "mixValueAgrees", fn := fun _ => fun
  | [d1, d2, d3, d4] => { results := [.lit (.bool true)], args := [d1, d2, d3, d4] }
  | _ => none }
def mixValueAgreesRow : OpenClaim := { program := "ythldhjipjihmoaadoor", sum := "dade9609152f7066f6a56082365d0faf3394821a24db10c4d8eea6348f9e554a", func := "compositor/compositorlaw08.MixValueAgrees", spec := "mixValueAgrees", inPlace := ["math/bits.Add64", "math/bits.Sub64"], named := ["compositor/operator.rules", "math/bits.divideError", "math/bits.overflowError"], apart := false, laid := [("compositor/operator.rules", laid_compositor_operator_rules)] }
def MixValueAgreesSaid : Prop := mixValueAgreesRow.holds Tryd.pinned (OpenSpec.ofChange mixValueAgreesSpec)

/-- ITS FALSE NEIGHBOUR: 'it returns false'. Refute it at one input. -/
def mixValueAgreesWrong : ChangeSpec := { name := "mixValueAgrees", fn := fun _ => fun
  | [d1, d2, d3, d4] => { results := [.lit (.bool false)], args := [d1, d2, d3, d4] }
  | _ => none }
def MixValueAgreesWrongFalsely : Prop := mixValueAgreesRow.holds Tryd.pinned (OpenSpec.ofChange mixValueAgreesWrong)

/-- 'compositorlaw08.MixNormalIsTheClassic': WHATEVER THE INPUT: true; the input reads as it did. -/
def mixNormalIsTheClassicSpec : ChangeSpec := { name := "mixNormalIsTheClassic", fn := fun _ => fun
  | [d1, d2] => { results := [.lit (.bool true)], args := [d1, d2] }
  | _ => none }
def mixNormalIsTheClassicRow : OpenClaim := { program := "ythldhjipjihmoaadoor", sum := "dade9609152f7066f6a56082365d0faf3394821a24db10c4d8eea6348f9e554a", func := "compositor/compositorlaw08.MixNormalIsTheClassic", spec := "mixNormalIsTheClassic", inPlace := ["math/bits.Add64", "math/bits.Sub64"], named := ["compositor/operator.rules", "math/bits.divideError", "math/bits.overflowError"], apart := false, laid := [("compositor/operator.rules", laid_compositor_operator_rules)] }
def MixNormalIsTheClassicSaid : Prop := mixNormalIsTheClassicRow.holds Tryd.pinned (OpenSpec.ofChange mixNormalIsTheClassicSpec)

/-- ITS FALSE NEIGHBOUR: 'it returns false'. Refute it at one input. -/
def mixNormalIsTheClassicWrong : ChangeSpec := { name := "mixNormalIsTheClassic", fn := fun _ => fun
  | [d1, d2] => { results := [.lit (.bool false)], args := [d1, d2] }
  | _ => none }
def MixNormalIsTheClassicWrongFalsely : Prop := mixNormalIsTheClassicRow.holds Tryd.pinned (OpenSpec.ofChange mixNormalIsTheClassicWrong)

/-- 'compositorlaw08.MixIgnoresModeWithoutOverlap': WHATEVER THE INPUT: true; the input reads as it did. -/
def mixIgnoresModeWithoutOverlapSpec : ChangeSpec := { name := "mixIgnoresModeWithoutOverlap", fn := fun _ => fun
  | [d1, d2, d3, d4] => { results := [.lit (.bool true)], args := [d1, d2, d3, d4] }
  | _ => none }
def mixIgnoresModeWithoutOverlapRow : OpenClaim := { program := "ythldhjipjihmoaadoor", sum := "dade9609152f7066f6a56082365d0faf3394821a24db10c4d8eea6348f9e554a", func := "compositor/compositorlaw08.MixIgnoresModeWithoutOverlap", spec := "mixIgnoresModeWithoutOverlap", inPlace := ["math/bits.Add64", "math/bits.Sub64"], named := ["compositor/operator.rules", "math/bits.divideError", "math/bits.overflowError"], apart := false, laid := [("compositor/operator.rules", laid_compositor_operator_rules)] }
def MixIgnoresModeWithoutOverlapSaid : Prop := mixIgnoresModeWithoutOverlapRow.holds Tryd.pinned (OpenSpec.ofChange mixIgnoresModeWithoutOverlapSpec)

/-- ITS FALSE NEIGHBOUR: 'it returns false'. Refute it at one input. -/
def mixIgnoresModeWithoutOverlapWrong : ChangeSpec := { name := "mixIgnoresModeWithoutOverlap", fn := fun _ => fun
  | [d1, d2, d3, d4] => { results := [.lit (.bool false)], args := [d1, d2, d3, d4] }
  | _ => none }
def MixIgnoresModeWithoutOverlapWrongFalsely : Prop := mixIgnoresModeWithoutOverlapRow.holds Tryd.pinned (OpenSpec.ofChange mixIgnoresModeWithoutOverlapWrong)

/-- 'compositorlaw08.MixOfOpaqueColours': WHATEVER THE INPUT: true; the input reads as it did. -/
def mixOfOpaqueColoursSpec : ChangeSpec := { name := "mixOfOpaqueColours", fn := fun _ => fun
  | [d1, d2, d3, d4, d5] => { results := [.lit (.bool true)], args := [d1, d2, d3, d4, d5] }
  | _ => none }
def mixOfOpaqueColoursRow : OpenClaim := { program := "ythldhjipjihmoaadoor", sum := "dade9609152f7066f6a56082365d0faf3394821a24db10c4d8eea6348f9e554a", func := "compositor/compositorlaw08.MixOfOpaqueColours", spec := "mixOfOpaqueColours", inPlace := ["math/bits.Add64", "math/bits.Sub64"], named := ["compositor/operator.rules", "math/bits.divideError", "math/bits.overflowError"], apart := false, laid := [("compositor/operator.rules", laid_compositor_operator_rules)] }
def MixOfOpaqueColoursSaid : Prop := mixOfOpaqueColoursRow.holds Tryd.pinned (OpenSpec.ofChange mixOfOpaqueColoursSpec)

/-- ITS FALSE NEIGHBOUR: 'it returns false'. Refute it at one input. -/
def mixOfOpaqueColoursWrong : ChangeSpec := { name := "mixOfOpaqueColours", fn := fun _ => fun
  | [d1, d2, d3, d4, d5] => { results := [.lit (.bool false)], args := [d1, d2, d3, d4, d5] }
  | _ => none }
def MixOfOpaqueColoursWrongFalsely : Prop := mixOfOpaqueColoursRow.holds Tryd.pinned (OpenSpec.ofChange mixOfOpaqueColoursWrong)

/-- 'compositorlaw10.KnockoutKeepsOrder': WHATEVER THE INPUT: true; the input reads as it did. -/
def knockoutKeepsOrderSpec : ChangeSpec := { name := "knockoutKeepsOrder", fn := fun _ => fun
  | [d1, d2, d3, d4, d5] => { results := [.lit (.bool true)], args := [d1, d2, d3, d4, d5] }
  | _ => none }
def knockoutKeepsOrderRow : OpenClaim := { program := "ythldhjipjihmoaadoor", sum := "dade9609152f7066f6a56082365d0faf3394821a24db10c4d8eea6348f9e554a", func := "compositor/compositorlaw10.KnockoutKeepsOrder", spec := "knockoutKeepsOrder", inPlace := ["math/bits.Add64", "math/bits.Sub64"], named := ["math/bits.divideError", "math/bits.overflowError", "compositor/operator.rules"], apart := false, laid := [("compositor/operator.rules", laid_compositor_operator_rules)] }
def KnockoutKeepsOrderSaid : Prop := knockoutKeepsOrderRow.holds Tryd.pinned (OpenSpec.ofChange knockoutKeepsOrderSpec)

/-- ITS FALSE NEIGHBOUR: 'it returns false'. Refute it at one input. -/
def knockoutKeepsOrderWrong : ChangeSpec := { name := "knockoutKeepsOrder", fn := fun _ => fun
  | [d1, d2, d3, d4, d5] => { results := [.lit (.bool false)], args := [d1, d2, d3, d4, d5] }
  | _ => none }
def KnockoutKeepsOrderWrongFalsely : Prop := knockoutKeepsOrderRow.holds Tryd.pinned (OpenSpec.ofChange knockoutKeepsOrderWrong)

/-- 'compositorlaw08.MixColourBelowAlpha': WHATEVER THE INPUT: true; the input reads as it did. -/
def mixColourBelowAlphaSpec : ChangeSpec := { name := "mixColourBelowAlpha", fn := fun _ => fun
  | [d1, d2, d3, d4] => { results := [.lit (.bool true)], args := [d1, d2, d3, d4] }
  | _ => none }
def mixColourBelowAlphaRow : OpenClaim := { program := "ythldhjipjihmoaadoor", sum := "dade9609152f7066f6a56082365d0faf3394821a24db10c4d8eea6348f9e554a", func := "compositor/compositorlaw08.MixColourBelowAlpha", spec := "mixColourBelowAlpha", inPlace := ["math/bits.Add64", "math/bits.Sub64"], named := ["compositor/operator.rules", "math/bits.divideError", "math/bits.overflowError"], apart := false, laid := [("compositor/operator.rules", laid_compositor_operator_rules)] }
def MixColourBelowAlphaSaid : Prop := mixColourBelowAlphaRow.holds Tryd.pinned (OpenSpec.ofChange mixColourBelowAlphaSpec)

/-- ITS FALSE NEIGHBOUR: 'it returns false'. Refute it at one input. -/
def mixColourBelowAlphaWrong : ChangeSpec := { name := "mixColourBelowAlpha", fn := fun _ => fun
  | [d1, d2, d3, d4] => { results := [.lit (.bool false)], args := [d1, d2, d3, d4] }
  | _ => none }
def MixColourBelowAlphaWrongFalsely : Prop := mixColourBelowAlphaRow.holds Tryd.pinned (OpenSpec.ofChange mixColourBelowAlphaWrong)

/-- 'compositorlaw10.KnockoutOfTheFirst': WHATEVER THE INPUT: true; the input reads as it did. -/
def knockoutOfTheFirstSpec : ChangeSpec := { name := "knockoutOfTheFirst", fn := fun _ => fun
  | [d1, d2, d3, d4] => { results := [.lit (.bool true)], args := [d1, d2, d3, d4] }
  | _ => none }
def knockoutOfTheFirstRow : OpenClaim := { program := "ythldhjipjihmoaadoor", sum := "dade9609152f7066f6a56082365d0faf3394821a24db10c4d8eea6348f9e554a", func := "compositor/compositorlaw10.KnockoutOfTheFirst", spec := "knockoutOfTheFirst", inPlace := ["math/bits.Add64", "math/bits.Sub64"], named := ["math/bits.divideError", "math/bits.overflowError", "compositor/operator.rules"], apart := false, laid := [("compositor/operator.rules", laid_compositor_operator_rules)] }
def KnockoutOfTheFirstSaid : Prop := knockoutOfTheFirstRow.holds Tryd.pinned (OpenSpec.ofChange knockoutOfTheFirstSpec)

/-- ITS FALSE NEIGHBOUR: 'it returns false'. Refute it at one input. -/
def knockoutOfTheFirstWrong : ChangeSpec := { name := "knockoutOfTheFirst", fn := fun _ => fun
  | [d1, d2, d3, d4] => { results := [.lit (.bool false)], args := [d1, d2, d3, d4] }
  | _ => none }
def KnockoutOfTheFirstWrongFalsely : Prop := knockoutOfTheFirstRow.holds Tryd.pinned (OpenSpec.ofChange knockoutOfTheFirstWrong)

/- THE SECOND FORM. 'bulk': how many values and letters a reading holds, each counted each time it is reached (what is shared counts as often as it is met; a slice's spare places count too). A statement '..UptoSaid' is the law's where the arguments, and the package variables that the reading takes, are together of bulk at most 1048576: NARROWER than '..Said'. Prove '..Said' where nothing that the law and all that it calls make is longer than what came in: it says more and counts as full. Else prove '..UptoSaid'. A law counts once. -/
mutual
def uptoBulk {H : Type} : DataW H → Nat
  | .lit (.string bytes) => bytes.length + 1
  | .lit _ => 1
  | .nil => 1
  | .ptr d => uptoBulk d + 1
  | .slice elems spare => uptoBulkAll elems + uptoBulkAll spare + 1
  | .agg parts => uptoBulkAll parts + 1
  | .iface _ d => uptoBulk d + 1
  | .map entries => uptoBulkEntries entries + 1
  | .held _ => 1
def uptoBulkAll {H : Type} : List (DataW H) → Nat
  | [] => 0
  | d :: r => uptoBulk d + uptoBulkAll r
def uptoBulkEntries {H : Type} : List (Lit × DataW H) → Nat
  | [] => 0
  | x :: r => uptoBulkEntry x + uptoBulkEntries r
def uptoBulkEntry {H : Type} : Lit × DataW H → Nat
  | (.string bytes, d) => bytes.length + uptoBulk d + 1
  | (_, d) => uptoBulk d + 1
 end
def uptoSmall : (H : Type) → List (DataW H) → Bool := fun _ ds => decide (uptoBulkAll ds ≤ 1048576)
def OpenSpec.upto (s : _root_.Go.ChangeSpec) : _root_.Go.OpenSpec := { _root_.Go.OpenSpec.ofChange s with cond := some uptoSmall }

/-- 'compositorlaw08.MixAgrees', WHERE WHAT IT READS IS OF BULK AT MOST 1048576: true; the input reads as it did. -/
def mixAgreesUptoRow : OpenClaim := { program := "ythldhjipjihmoaadoor", sum := "dade9609152f7066f6a56082365d0faf3394821a24db10c4d8eea6348f9e554a", func := "compositor/compositorlaw08.MixAgrees", spec := "mixAgrees", inPlace := ["math/bits.Add64", "math/bits.Sub64"], named := ["compositor/operator.rules", "math/bits.divideError", "math/bits.overflowError"], apart := false, laid := [("compositor/operator.rules", laid_compositor_operator_rules)], narrowed := true }
def MixAgreesUptoSaid : Prop := mixAgreesUptoRow.holds Tryd.pinned (OpenSpec.upto mixAgreesSpec)

/-- 'compositorlaw08.MixAgreesForAll', WHERE WHAT IT READS IS OF BULK AT MOST 1048576: true; the input reads as it did. -/
def mixAgreesForAllUptoRow : OpenClaim := { program := "ythldhjipjihmoaadoor", sum := "dade9609152f7066f6a56082365d0faf3394821a24db10c4d8eea6348f9e554a", func := "compositor/compositorlaw08.MixAgreesForAll", spec := "mixAgreesForAll", inPlace := ["math/bits.Add64", "math/bits.Sub64"], named := ["compositor/operator.rules", "math/bits.divideError", "math/bits.overflowError"], apart := false, laid := [("compositor/operator.rules", laid_compositor_operator_rules)], narrowed := true }
def MixAgreesForAllUptoSaid : Prop := mixAgreesForAllUptoRow.holds Tryd.pinned (OpenSpec.upto mixAgreesForAllSpec)

/-- 'compositorlaw08.MixValueAgrees', WHERE WHAT IT READS IS OF BULK AT MOST 1048576: true; the input reads as it did. -/
def mixValueAgreesUptoRow : OpenClaim := { program := "ythldhjipjihmoaadoor", sum := "dade9609152f7066f6a56082365d0faf3394821a24db10c4d8eea6348f9e554a", func := "compositor/compositorlaw08.MixValueAgrees", spec := "mixValueAgrees", inPlace := ["math/bits.Add64", "math/bits.Sub64"], named := ["compositor/operator.rules", "math/bits.divideError", "math/bits.overflowError"], apart := false, laid := [("compositor/operator.rules", laid_compositor_operator_rules)], narrowed := true }
def MixValueAgreesUptoSaid : Prop := mixValueAgreesUptoRow.holds Tryd.pinned (OpenSpec.upto mixValueAgreesSpec)

/-- 'compositorlaw08.MixNormalIsTheClassic', WHERE WHAT IT READS IS OF BULK AT MOST 1048576: true; the input reads as it did. -/
def mixNormalIsTheClassicUptoRow : OpenClaim := { program := "ythldhjipjihmoaadoor", sum := "dade9609152f7066f6a56082365d0faf3394821a24db10c4d8eea6348f9e554a", func := "compositor/compositorlaw08.MixNormalIsTheClassic", spec := "mixNormalIsTheClassic", inPlace := ["math/bits.Add64", "math/bits.Sub64"], named := ["compositor/operator.rules", "math/bits.divideError", "math/bits.overflowError"], apart := false, laid := [("compositor/operator.rules", laid_compositor_operator_rules)], narrowed := true }
def MixNormalIsTheClassicUptoSaid : Prop := mixNormalIsTheClassicUptoRow.holds Tryd.pinned (OpenSpec.upto mixNormalIsTheClassicSpec)

/-- 'compositorlaw08.MixIgnoresModeWithoutOverlap', WHERE WHAT IT READS IS OF BULK AT MOST 1048576: true; the input reads as it did. -/
def mixIgnoresModeWithoutOverlapUptoRow : OpenClaim := { program := "ythldhjipjihmoaadoor", sum := "dade9609152f7066f6a56082365d0faf3394821a24db10c4d8eea6348f9e554a", func := "compositor/compositorlaw08.MixIgnoresModeWithoutOverlap", spec := "mixIgnoresModeWithoutOverlap", inPlace := ["math/bits.Add64", "math/bits.Sub64"], named := ["compositor/operator.rules", "math/bits.divideError", "math/bits.overflowError"], apart := false, laid := [("compositor/operator.rules", laid_compositor_operator_rules)], narrowed := true }
def MixIgnoresModeWithoutOverlapUptoSaid : Prop := mixIgnoresModeWithoutOverlapUptoRow.holds Tryd.pinned (OpenSpec.upto mixIgnoresModeWithoutOverlapSpec)

/-- 'compositorlaw08.MixOfOpaqueColours', WHERE WHAT IT READS IS OF BULK AT MOST 1048576: true; the input reads as it did. -/
def mixOfOpaqueColoursUptoRow : OpenClaim := { program := "ythldhjipjihmoaadoor", sum := "dade9609152f7066f6a56082365d0faf3394821a24db10c4d8eea6348f9e554a", func := "compositor/compositorlaw08.MixOfOpaqueColours", spec := "mixOfOpaqueColours", inPlace := ["math/bits.Add64", "math/bits.Sub64"], named := ["compositor/operator.rules", "math/bits.divideError", "math/bits.overflowError"], apart := false, laid := [("compositor/operator.rules", laid_compositor_operator_rules)], narrowed := true }
def MixOfOpaqueColoursUptoSaid : Prop := mixOfOpaqueColoursUptoRow.holds Tryd.pinned (OpenSpec.upto mixOfOpaqueColoursSpec)

/-- 'compositorlaw10.KnockoutKeepsOrder', WHERE WHAT IT READS IS OF BULK AT MOST 1048576: true; the input reads as it did. -/
def knockoutKeepsOrderUptoRow : OpenClaim := { program := "ythldhjipjihmoaadoor", sum := "dade9609152f7066f6a56082365d0faf3394821a24db10c4d8eea6348f9e554a", func := "compositor/compositorlaw10.KnockoutKeepsOrder", spec := "knockoutKeepsOrder", inPlace := ["math/bits.Add64", "math/bits.Sub64"], named := ["math/bits.divideError", "math/bits.overflowError", "compositor/operator.rules"], apart := false, laid := [("compositor/operator.rules", laid_compositor_operator_rules)], narrowed := true }
def KnockoutKeepsOrderUptoSaid : Prop := knockoutKeepsOrderUptoRow.holds Tryd.pinned (OpenSpec.upto knockoutKeepsOrderSpec)

/-- 'compositorlaw08.MixColourBelowAlpha', WHERE WHAT IT READS IS OF BULK AT MOST 1048576: true; the input reads as it did. -/
def mixColourBelowAlphaUptoRow : OpenClaim := { program := "ythldhjipjihmoaadoor", sum := "dade9609152f7066f6a56082365d0faf3394821a24db10c4d8eea6348f9e554a", func := "compositor/compositorlaw08.MixColourBelowAlpha", spec := "mixColourBelowAlpha", inPlace := ["math/bits.Add64", "math/bits.Sub64"], named := ["compositor/operator.rules", "math/bits.divideError", "math/bits.overflowError"], apart := false, laid := [("compositor/operator.rules", laid_compositor_operator_rules)], narrowed := true }
def MixColourBelowAlphaUptoSaid : Prop := mixColourBelowAlphaUptoRow.holds Tryd.pinned (OpenSpec.upto mixColourBelowAlphaSpec)

/-- 'compositorlaw10.KnockoutOfTheFirst', WHERE WHAT IT READS IS OF BULK AT MOST 1048576: true; the input reads as it did. -/
def knockoutOfTheFirstUptoRow : OpenClaim := { program := "ythldhjipjihmoaadoor", sum := "dade9609152f7066f6a56082365d0faf3394821a24db10c4d8eea6348f9e554a", func := "compositor/compositorlaw10.KnockoutOfTheFirst", spec := "knockoutOfTheFirst", inPlace := ["math/bits.Add64", "math/bits.Sub64"], named := ["math/bits.divideError", "math/bits.overflowError", "compositor/operator.rules"], apart := false, laid := [("compositor/operator.rules", laid_compositor_operator_rules)], narrowed := true }
def KnockoutOfTheFirstUptoSaid : Prop := knockoutOfTheFirstUptoRow.holds Tryd.pinned (OpenSpec.upto knockoutOfTheFirstSpec)

end Rows
end Go.Proofs.YthldhjipjihmoaaDoor
