/-
  NARROWER THAN 'FOR EVERY INPUT', by the rows' own cells (each row's printed sentence says how): PixelClasses: laid · PixelCompositeAgrees: laid · PixelRejectsOneSample: laid · PixelStaysValid: laid · PixelIdentities: laid · PixelOverIsAssociativeUpToRounding: laid.
  DERIVED. THE GIVEN ROWS OF THIS SEAT. 6 by the template 'for every input the law returns true; each argument reads behind the call as it read before'; 0 by the template 'total and deterministic' (their statements: YtnfloafopnldpaaDoorTotals.lean).
  GIVEN WITH THE SEED: the statements are not yours to turn. If you find one false, say at which input.
  Laid BY PROGRAM, IN A SANDBOX (cutbox-rows.mjs): the forced cells as the released guide's own fill.sh prints them over the translation 1f5cf352de8c8ac4… (all of the seat's roots in one cut). By AI agents, Wed Nov 11 2026. No macro, syntax, notation, axiom, sorry.
-/
import Derived.Test.YtnfloafopnldpaaDoorChecked
import GoSem.Claim
import GoSem.ClaimJoined
import GoSem.ClaimMapViews
import Derived.JoinedTies
import Derived.KernelRfl
namespace Go.Proofs.YtnfloafopnldpaaDoor
/- THE CELL 'sum', in the pinned program and in every row, IS THE sha256 OF THE DUMP (.gsa) THAT YtnfloafopnldpaaDoorProg.lean LOADS. Nothing in Lean hashes anything: it is a label: what it is worth is what the hold of that sum in a sandbox is worth. -/
noncomputable def Tryd.pinned : Pinned := { name := "ytnfloafopnldpaadoor", sum := "1f5cf352de8c8ac427a7caef1114927a1f5dc56482131bd2288df39869dc2665", checked := Tryd.checked }
namespace Rows
def none {H : Type} : Left H := { results := [], args := [] }

/- WHAT THE LISTED PACKAGE-LEVEL VARIABLES READ AS WHEN THE CALL BEGINS. Each datum BY PROGRAM (the guide's laid-datum.mjs) off the statement by which the dump's own 'gosem.cut.vars' lays the variable. In a bare row this is a premise. The card (YtnfloafopnldpaaDoorCards.lean) ties it to the program's text. -/
def laid_compositor_operator_rules {H : Type} : DataW H := .agg [.agg [.lit (.string []), .lit (.int .i64 0), .lit (.int .i64 0), .lit (.int .i64 0)], .agg [.lit (.string [99, 108, 101, 97, 114]), .lit (.int .i64 0), .lit (.int .i64 0), .lit (.int .i64 0)], .agg [.lit (.string [115, 114, 99]), .lit (.int .i64 1), .lit (.int .i64 0), .lit (.int .i64 1)], .agg [.lit (.string [100, 115, 116]), .lit (.int .i64 0), .lit (.int .i64 1), .lit (.int .i64 2)], .agg [.lit (.string [115, 114, 99, 45, 111, 118, 101, 114]), .lit (.int .i64 1), .lit (.int .i64 3), .lit (.int .i64 3)], .agg [.lit (.string [100, 115, 116, 45, 111, 118, 101, 114]), .lit (.int .i64 3), .lit (.int .i64 1), .lit (.int .i64 3)], .agg [.lit (.string [115, 114, 99, 45, 105, 110]), .lit (.int .i64 2), .lit (.int .i64 0), .lit (.int .i64 4)], .agg [.lit (.string [100, 115, 116, 45, 105, 110]), .lit (.int .i64 0), .lit (.int .i64 2), .lit (.int .i64 4)], .agg [.lit (.string [115, 114, 99, 45, 111, 117, 116]), .lit (.int .i64 3), .lit (.int .i64 0), .lit (.int .i64 1)], .agg [.lit (.string [100, 115, 116, 45, 111, 117, 116]), .lit (.int .i64 0), .lit (.int .i64 3), .lit (.int .i64 2)], .agg [.lit (.string [115, 114, 99, 45, 97, 116, 111, 112]), .lit (.int .i64 2), .lit (.int .i64 3), .lit (.int .i64 2)], .agg [.lit (.string [100, 115, 116, 45, 97, 116, 111, 112]), .lit (.int .i64 3), .lit (.int .i64 2), .lit (.int .i64 1)], .agg [.lit (.string [120, 111, 114]), .lit (.int .i64 3), .lit (.int .i64 3), .lit (.int .i64 3)]]

/-- 'compositorlaw09.PixelClasses': WHATEVER THE INPUT: true; the input reads as it did. -/
def pixelClassesSpec : ChangeSpec := { name := "pixelClasses", fn := fun _ => fun
  | [d1, d2, d3, d4] => { results := [.lit (.bool true)], args := [d1, d2, d3, d4] }
  | _ => none }
def pixelClassesRow : OpenClaim := { program := "ytnfloafopnldpaadoor", sum := "1f5cf352de8c8ac427a7caef1114927a1f5dc56482131bd2288df39869dc2665", func := "compositor/compositorlaw09.PixelClasses", spec := "pixelClasses", inPlace := ["math/bits.Add64", "math/bits.Sub64"], unfollowed := true, recurses := true, named := ["compositor/operator.rules", "math/bits.divideError", "math/bits.overflowError"], apart := false, laid := [("compositor/operator.rules", laid_compositor_operator_rules)] }
def PixelClassesSaid : Prop := pixelClassesRow.holds Tryd.pinned (OpenSpec.ofChange pixelClassesSpec)

/-- ITS FALSE NEIGHBOUR: 'it returns false'. Refute it at one input. -/
def pixelClassesWrong : ChangeSpec := { name := "pixelClasses", fn := fun _ => fun
  | [d1, d2, d3, d4] => { results := [.lit (.bool false)], args := [d1, d2, d3, d4] }
  | _ => none }
def PixelClassesWrongFalsely : Prop := pixelClassesRow.holds Tryd.pinned (OpenSpec.ofChange pixelClassesWrong)

/-- 'compositorlaw09.PixelCompositeAgrees': WHATEVER THE INPUT: true; the input reads as it did. -/
def pixelCompositeAgreesSpec : ChangeSpec := { name := "pixelCompositeAgrees", fn := fun _ => fun
  | [d1, d2, d3, d4, d5, d6, d7, d8] => { results := [.lit (.bool true)], args := [d1, d2, d3, d4, d5, d6, d7, d8] }
  | _ => none }
def pixelCompositeAgreesRow : OpenClaim := { program := "ytnfloafopnldpaadoor", sum := "1f5cf352de8c8ac427a7caef1114927a1f5dc56482131bd2288df39869dc2665", func := "compositor/compositorlaw09.PixelCompositeAgrees", spec := "pixelCompositeAgrees", inPlace := ["math/bits.Add64", "math/bits.Sub64"], unfollowed := true, recurses := true, named := ["compositor/operator.rules", "math/bits.divideError", "math/bits.overflowError"], apart := false, laid := [("compositor/operator.rules", laid_compositor_operator_rules)] }
def PixelCompositeAgreesSaid : Prop := pixelCompositeAgreesRow.holds Tryd.pinned (OpenSpec.ofChange pixelCompositeAgreesSpec)

/-- ITS FALSE NEIGHBOUR: 'it returns false'. Refute it at one input. -/
def pixelCompositeAgreesWrong : ChangeSpec := { name := "pixelCompositeAgrees", fn := fun _ => fun
  | [d1, d2, d3, d4, d5, d6, d7, d8] => { results := [.lit (.bool false)], args := [d1, d2, d3, d4, d5, d6, d7, d8] }
  | _ => none }
def PixelCompositeAgreesWrongFalsely : Prop := pixelCompositeAgreesRow.holds Tryd.pinned (OpenSpec.ofChange pixelCompositeAgreesWrong)

/-- 'compositorlaw09.PixelRejectsOneSample': WHATEVER THE INPUT: true; the input reads as it did. -/
def pixelRejectsOneSampleSpec : ChangeSpec := { name := "pixelRejectsOneSample", fn := fun _ => fun
  | [d1, d2, d3, d4, d5, d6] => { results := [.lit (.bool true)], args := [d1, d2, d3, d4, d5, d6] }
  | _ => none }
def pixelRejectsOneSampleRow : OpenClaim := { program := "ytnfloafopnldpaadoor", sum := "1f5cf352de8c8ac427a7caef1114927a1f5dc56482131bd2288df39869dc2665", func := "compositor/compositorlaw09.PixelRejectsOneSample", spec := "pixelRejectsOneSample", inPlace := ["math/bits.Add64", "math/bits.Sub64"], unfollowed := true, recurses := true, named := ["compositor/operator.rules", "math/bits.divideError", "math/bits.overflowError"], apart := false, laid := [("compositor/operator.rules", laid_compositor_operator_rules)] }
def PixelRejectsOneSampleSaid : Prop := pixelRejectsOneSampleRow.holds Tryd.pinned (OpenSpec.ofChange pixelRejectsOneSampleSpec)

/-- ITS FALSE NEIGHBOUR: 'it returns false'. Refute it at one input. -/
def pixelRejectsOneSampleWrong : ChangeSpec := { name := "pixelRejectsOneSample", fn := fun _ => fun
  | [d1, d2, d3, d4, d5, d6] => { results := [.lit (.bool false)], args := [d1, d2, d3, d4, d5, d6] }
  | _ => none }
def PixelRejectsOneSampleWrongFalsely : Prop := pixelRejectsOneSampleRow.holds Tryd.pinned (OpenSpec.ofChange pixelRejectsOneSampleWrong)

/-- 'compositorlaw09.PixelStaysValid': WHATEVER THE INPUT: true; the input reads as it did. -/
def pixelStaysValidSpec : ChangeSpec := { name := "pixelStaysValid", fn := fun _ => fun
  | [d1, d2, d3, d4, d5] => { results := [.lit (.bool true)], args := [d1, d2, d3, d4, d5] }
  | _ => none }
def pixelStaysValidRow : OpenClaim := { program := "ytnfloafopnldpaadoor", sum := "1f5cf352de8c8ac427a7caef1114927a1f5dc56482131bd2288df39869dc2665", func := "compositor/compositorlaw09.PixelStaysValid", spec := "pixelStaysValid", inPlace := ["math/bits.Add64", "math/bits.Sub64"], unfollowed := true, recurses := true, named := ["compositor/operator.rules", "math/bits.divideError", "math/bits.overflowError"], apart := false, laid := [("compositor/operator.rules", laid_compositor_operator_rules)] }
def PixelStaysValidSaid : Prop := pixelStaysValidRow.holds Tryd.pinned (OpenSpec.ofChange pixelStaysValidSpec)

/-- ITS FALSE NEIGHBOUR: 'it returns false'. Refute it at one input. -/
def pixelStaysValidWrong : ChangeSpec := { name := "pixelStaysValid", fn := fun _ => fun
  | [d1, d2, d3, d4, d5] => { results := [.lit (.bool false)], args := [d1, d2, d3, d4, d5] }
  | _ => none }
def PixelStaysValidWrongFalsely : Prop := pixelStaysValidRow.holds Tryd.pinned (OpenSpec.ofChange pixelStaysValidWrong)

/-- 'compositorlaw09.PixelIdentities': WHATEVER THE INPUT: true; the input reads as it did. -/
def pixelIdentitiesSpec : ChangeSpec := { name := "pixelIdentities", fn := fun _ => fun
  | [d1, d2, d3, d4, d5] => { results := [.lit (.bool true)], args := [d1, d2, d3, d4, d5] }
  | _ => none }
def pixelIdentitiesRow : OpenClaim := { program := "ytnfloafopnldpaadoor", sum := "1f5cf352de8c8ac427a7caef1114927a1f5dc56482131bd2288df39869dc2665", func := "compositor/compositorlaw09.PixelIdentities", spec := "pixelIdentities", inPlace := ["math/bits.Add64", "math/bits.Sub64"], unfollowed := true, recurses := true, named := ["compositor/operator.rules", "math/bits.divideError", "math/bits.overflowError"], apart := false, laid := [("compositor/operator.rules", laid_compositor_operator_rules)] }
def PixelIdentitiesSaid : Prop := pixelIdentitiesRow.holds Tryd.pinned (OpenSpec.ofChange pixelIdentitiesSpec)

/-- ITS FALSE NEIGHBOUR: 'it returns false'. Refute it at one input. -/
def pixelIdentitiesWrong : ChangeSpec := { name := "pixelIdentities", fn := fun _ => fun
  | [d1, d2, d3, d4, d5] => { results := [.lit (.bool false)], args := [d1, d2, d3, d4, d5] }
  | _ => none }
def PixelIdentitiesWrongFalsely : Prop := pixelIdentitiesRow.holds Tryd.pinned (OpenSpec.ofChange pixelIdentitiesWrong)

/-- 'compositorlaw09.PixelOverIsAssociativeUpToRounding': WHATEVER THE INPUT: true; the input reads as it did. -/
def pixelOverIsAssociativeUpToRoundingSpec : ChangeSpec := { name := "pixelOverIsAssociativeUpToRounding", fn := fun _ => fun
  | [d1, d2, d3, d4] => { results := [.lit (.bool true)], args := [d1, d2, d3, d4] }
  | _ => none }
def pixelOverIsAssociativeUpToRoundingRow : OpenClaim := { program := "ytnfloafopnldpaadoor", sum := "1f5cf352de8c8ac427a7caef1114927a1f5dc56482131bd2288df39869dc2665", func := "compositor/compositorlaw09.PixelOverIsAssociativeUpToRounding", spec := "pixelOverIsAssociativeUpToRounding", inPlace := ["math/bits.Add64", "math/bits.Sub64"], unfollowed := true, recurses := true, named := ["compositor/operator.rules", "math/bits.divideError", "math/bits.overflowError"], apart := false, laid := [("compositor/operator.rules", laid_compositor_operator_rules)] }
def PixelOverIsAssociativeUpToRoundingSaid : Prop := pixelOverIsAssociativeUpToRoundingRow.holds Tryd.pinned (OpenSpec.ofChange pixelOverIsAssociativeUpToRoundingSpec)

/-- ITS FALSE NEIGHBOUR: 'it returns false'. Refute it at one input. -/
def pixelOverIsAssociativeUpToRoundingWrong : ChangeSpec := { name := "pixelOverIsAssociativeUpToRounding", fn := fun _ => fun
  | [d1, d2, d3, d4] => { results := [.lit (.bool false)], args := [d1, d2, d3, d4] }
  | _ => none }
def PixelOverIsAssociativeUpToRoundingWrongFalsely : Prop := pixelOverIsAssociativeUpToRoundingRow.holds Tryd.pinned (OpenSpec.ofChange pixelOverIsAssociativeUpToRoundingWrong)

/- THE SECOND FORM. 'bulk': how many values and letters a reading holds, each counted each time it is reached (what is shared counts as often as it is met; a slice's spare places count too). A statement '..UptoSaid' is the law's where the arguments, and the package variables that the reading takes, are together of bulk at most 1048576: NARROWER than '..Said'. Prove '..Said' where nothing that the law and all that it calls make is longer than what came in: it says more and counts as full. Else prove '..UptoSaid'. A law counts once. -/
mutual
def uptoBulk {H : Type} : DataW H → Nat
  | .lit (.string bytes) => bytes.length + 1
  | .lit _ => 1
  | .nil => 1
  | .ptr d => uptoBulk d + 1
  | .slice elems spare => uptoBulkAll elems + uptoBulkAll spare + 1
  | .agg parts => uptoBulkAll parts + 1
  | .iface _ d => uptoBulk d + 1
  | .map entries => uptoBulkEntries entries + 1
  | .held _ => 1
def uptoBulkAll {H : Type} : List (DataW H) → Nat
  | [] => 0
  | d :: r => uptoBulk d + uptoBulkAll r
def uptoBulkEntries {H : Type} : List (Lit × DataW H) → Nat
  | [] => 0
  | x :: r => uptoBulkEntry x + uptoBulkEntries r
def uptoBulkEntry {H : Type} : Lit × DataW H → Nat
  | (.string bytes, d) => bytes.length + uptoBulk d + 1
  | (_, d) => uptoBulk d + 1
 end
def uptoSmall : (H : Type) → List (DataW H) → Bool := fun _ ds => decide (uptoBulkAll ds ≤ 1048576)
def OpenSpec.upto (s : _root_.Go.ChangeSpec) : _root_.Go.OpenSpec := { _root_.Go.OpenSpec.ofChange s with cond := some uptoSmall }

/-- 'compositorlaw09.PixelClasses', WHERE WHAT IT READS IS OF BULK AT MOST 1048576: true; the input reads as it did. -/
def pixelClassesUptoRow : OpenClaim := { program := "ytnfloafopnldpaadoor", sum := "1f5cf352de8c8ac427a7caef1114927a1f5dc56482131bd2288df39869dc2665", func := "compositor/compositorlaw09.PixelClasses", spec := "pixelClasses", inPlace := ["math/bits.Add64", "math/bits.Sub64"], unfollowed := true, recurses := true, named := ["compositor/operator.rules", "math/bits.divideError", "math/bits.overflowError"], apart := false, laid := [("compositor/operator.rules", laid_compositor_operator_rules)], narrowed := true }
def PixelClassesUptoSaid : Prop := pixelClassesUptoRow.holds Tryd.pinned (OpenSpec.upto pixelClassesSpec)

/-- 'compositorlaw09.PixelCompositeAgrees', WHERE WHAT IT READS IS OF BULK AT MOST 1048576: true; the input reads as it did. -/
def pixelCompositeAgreesUptoRow : OpenClaim := { program := "ytnfloafopnldpaadoor", sum := "1f5cf352de8c8ac427a7caef1114927a1f5dc56482131bd2288df39869dc2665", func := "compositor/compositorlaw09.PixelCompositeAgrees", spec := "pixelCompositeAgrees", inPlace := ["math/bits.Add64", "math/bits.Sub64"], unfollowed := true, recurses := true, named := ["compositor/operator.rules", "math/bits.divideError", "math/bits.overflowError"], apart := false, laid := [("compositor/operator.rules", laid_compositor_operator_rules)], narrowed := true }
def PixelCompositeAgreesUptoSaid : Prop := pixelCompositeAgreesUptoRow.holds Tryd.pinned (OpenSpec.upto pixelCompositeAgreesSpec)

/-- 'compositorlaw09.PixelRejectsOneSample', WHERE WHAT IT READS IS OF BULK AT MOST 1048576: true; the input reads as it did. -/
def pixelRejectsOneSampleUptoRow : OpenClaim := { program := "ytnfloafopnldpaadoor", sum := "1f5cf352de8c8ac427a7caef1114927a1f5dc56482131bd2288df39869dc2665", func := "compositor/compositorlaw09.PixelRejectsOneSample", spec := "pixelRejectsOneSample", inPlace := ["math/bits.Add64", "math/bits.Sub64"], unfollowed := true, recurses := true, named := ["compositor/operator.rules", "math/bits.divideError", "math/bits.overflowError"], apart := false, laid := [("compositor/operator.rules", laid_compositor_operator_rules)], narrowed := true }
def PixelRejectsOneSampleUptoSaid : Prop := pixelRejectsOneSampleUptoRow.holds Tryd.pinned (OpenSpec.upto pixelRejectsOneSampleSpec)

/-- 'compositorlaw09.PixelStaysValid', WHERE WHAT IT READS IS OF BULK AT MOST 1048576: true; the input reads as it did. -/
def pixelStaysValidUptoRow : OpenClaim := { program := "ytnfloafopnldpaadoor", sum := "1f5cf352de8c8ac427a7caef1114927a1f5dc56482131bd2288df39869dc2665", func := "compositor/compositorlaw09.PixelStaysValid", spec := "pixelStaysValid", inPlace := ["math/bits.Add64", "math/bits.Sub64"], unfollowed := true, recurses := true, named := ["compositor/operator.rules", "math/bits.divideError", "math/bits.overflowError"], apart := false, laid := [("compositor/operator.rules", laid_compositor_operator_rules)], narrowed := true }
def PixelStaysValidUptoSaid : Prop := pixelStaysValidUptoRow.holds Tryd.pinned (OpenSpec.upto pixelStaysValidSpec)

/-- 'compositorlaw09.PixelIdentities', WHERE WHAT IT READS IS OF BULK AT MOST 1048576: true; the input reads as it did. -/
def pixelIdentitiesUptoRow : OpenClaim := { program := "ytnfloafopnldpaadoor", sum := "1f5cf352de8c8ac427a7caef1114927a1f5dc56482131bd2288df39869dc2665", func := "compositor/compositorlaw09.PixelIdentities", spec := "pixelIdentities", inPlace := ["math/bits.Add64", "math/bits.Sub64"], unfollowed := true, recurses := true, named := ["compositor/operator.rules", "math/bits.divideError", "math/bits.overflowError"], apart := false, laid := [("compositor/operator.rules", laid_compositor_operator_rules)], narrowed := true }
def PixelIdentitiesUptoSaid : Prop := pixelIdentitiesUptoRow.holds Tryd.pinned (OpenSpec.upto pixelIdentitiesSpec)

/-- 'compositorlaw09.PixelOverIsAssociativeUpToRounding', WHERE WHAT IT READS IS OF BULK AT MOST 1048576: true; the input reads as it did. -/
def pixelOverIsAssociativeUpToRoundingUptoRow : OpenClaim := { program := "ytnfloafopnldpaadoor", sum := "1f5cf352de8c8ac427a7caef1114927a1f5dc56482131bd2288df39869dc2665", func := "compositor/compositorlaw09.PixelOverIsAssociativeUpToRounding", spec := "pixelOverIsAssociativeUpToRounding", inPlace := ["math/bits.Add64", "math/bits.Sub64"], unfollowed := true, recurses := true, named := ["compositor/operator.rules", "math/bits.divideError", "math/bits.overflowError"], apart := false, laid := [("compositor/operator.rules", laid_compositor_operator_rules)], narrowed := true }
def PixelOverIsAssociativeUpToRoundingUptoSaid : Prop := pixelOverIsAssociativeUpToRoundingUptoRow.holds Tryd.pinned (OpenSpec.upto pixelOverIsAssociativeUpToRoundingSpec)

end Rows
end Go.Proofs.YtnfloafopnldpaaDoor
