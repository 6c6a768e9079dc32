/-
  DERIVED. GIVEN WITH THE SEED: THE CARDS: each row of YtfjhhadmncjdiaaDoorRows.lean that lists a variable, with what it lists TIED to the program's text (the seventh form; the later family's looks); each row that meets fmt, with fmt's text TOLD by the authors' own Lean function (tested against real Go, not proved from fmt's source: count such statements apart). THE CARD IS WHAT COUNTS. Prove the row's statement (the work); the ties are given (YtfjhhadmncjdiaaDoorTie.lean); close each card by the builder's one call (the guide's Derived/Test/ToyasCard.lean, 'card_holds'). Laid BY PROGRAM, IN A SANDBOX (cutbox-door.mjs). By AI agents, Wed Nov 11 2026. No macro, syntax, notation, axiom, sorry.
-/
import Derived.Test.YtfjhhadmncjdiaaDoorRows
import GoSem.ClaimSeven
namespace Go.Proofs.YtfjhhadmncjdiaaDoor
namespace Rows

/-- THE TIED CARD OF 'compositorlaw16.SpanClassifyAgrees'. -/
def spanClassifyAgreesCard : Claim7 := { stood := { row := spanClassifyAgreesRow, standIns := [], harness := (true, "f1515bd25338b69b5819184a1423610d0db4693a382396ef07a158399593cda7"), looks := false }, kinds := [], alts := [], laidByText := true, laidKinds := [.data, .data], laidTests := true, laidLooks := .later }
def SpanClassifyAgreesCardSaid : Prop := Claim7.holds Tryd.pinned (.plain (OpenSpec.ofChange spanClassifyAgreesSpec)) spanClassifyAgreesCard

/-- THE TIED CARD OF 'compositorlaw16.SpanCompositeIsPixelByPixel'. -/
def spanCompositeIsPixelByPixelCard : Claim7 := { stood := { row := spanCompositeIsPixelByPixelRow, standIns := [], harness := (true, "f1515bd25338b69b5819184a1423610d0db4693a382396ef07a158399593cda7"), looks := false }, kinds := [], alts := [], laidByText := true, laidKinds := [.data, .data], laidTests := true, laidLooks := .later }
def SpanCompositeIsPixelByPixelCardSaid : Prop := Claim7.holds Tryd.pinned (.plain (OpenSpec.ofChange spanCompositeIsPixelByPixelSpec)) spanCompositeIsPixelByPixelCard

/-- THE TIED CARD OF 'compositorlaw16.SpanScaleIsPixelByPixel'. -/
def spanScaleIsPixelByPixelCard : Claim7 := { stood := { row := spanScaleIsPixelByPixelRow, standIns := [], harness := (true, "f1515bd25338b69b5819184a1423610d0db4693a382396ef07a158399593cda7"), looks := false }, kinds := [], alts := [], laidByText := true, laidKinds := [.data, .data], laidTests := true, laidLooks := .later }
def SpanScaleIsPixelByPixelCardSaid : Prop := Claim7.holds Tryd.pinned (.plain (OpenSpec.ofChange spanScaleIsPixelByPixelSpec)) spanScaleIsPixelByPixelCard

/-- THE TIED CARD OF 'compositorlaw16.SpanStepIsPixelByPixel'. -/
def spanStepIsPixelByPixelCard : Claim7 := { stood := { row := spanStepIsPixelByPixelRow, standIns := [], harness := (true, "f1515bd25338b69b5819184a1423610d0db4693a382396ef07a158399593cda7"), looks := false }, kinds := [], alts := [], laidByText := true, laidKinds := [.data, .data], laidTests := true, laidLooks := .later }
def SpanStepIsPixelByPixelCardSaid : Prop := Claim7.holds Tryd.pinned (.plain (OpenSpec.ofChange spanStepIsPixelByPixelSpec)) spanStepIsPixelByPixelCard

/-- THE TIED CARD OF 'compositorlaw16.SpanOfNothing'. -/
def spanOfNothingCard : Claim7 := { stood := { row := spanOfNothingRow, standIns := [], harness := (true, "f1515bd25338b69b5819184a1423610d0db4693a382396ef07a158399593cda7"), looks := false }, kinds := [], alts := [], laidByText := true, laidKinds := [.data, .data], laidTests := true, laidLooks := .later }
def SpanOfNothingCardSaid : Prop := Claim7.holds Tryd.pinned (.plain (OpenSpec.ofChange spanOfNothingSpec)) spanOfNothingCard

/-- THE SECOND FORM's CARD OF 'compositorlaw16.SpanClassifyAgrees'. -/
def spanClassifyAgreesUptoCard : Claim7 := { stood := { row := spanClassifyAgreesUptoRow, standIns := [], harness := (true, "f1515bd25338b69b5819184a1423610d0db4693a382396ef07a158399593cda7"), looks := false }, kinds := [], alts := [], laidByText := true, laidKinds := [.data, .data], laidTests := true, laidLooks := .later }
def SpanClassifyAgreesUptoCardSaid : Prop := Claim7.holds Tryd.pinned (.plain (OpenSpec.upto spanClassifyAgreesSpec)) spanClassifyAgreesUptoCard

/-- THE SECOND FORM's CARD OF 'compositorlaw16.SpanCompositeIsPixelByPixel'. -/
def spanCompositeIsPixelByPixelUptoCard : Claim7 := { stood := { row := spanCompositeIsPixelByPixelUptoRow, standIns := [], harness := (true, "f1515bd25338b69b5819184a1423610d0db4693a382396ef07a158399593cda7"), looks := false }, kinds := [], alts := [], laidByText := true, laidKinds := [.data, .data], laidTests := true, laidLooks := .later }
def SpanCompositeIsPixelByPixelUptoCardSaid : Prop := Claim7.holds Tryd.pinned (.plain (OpenSpec.upto spanCompositeIsPixelByPixelSpec)) spanCompositeIsPixelByPixelUptoCard

/-- THE SECOND FORM's CARD OF 'compositorlaw16.SpanScaleIsPixelByPixel'. -/
def spanScaleIsPixelByPixelUptoCard : Claim7 := { stood := { row := spanScaleIsPixelByPixelUptoRow, standIns := [], harness := (true, "f1515bd25338b69b5819184a1423610d0db4693a382396ef07a158399593cda7"), looks := false }, kinds := [], alts := [], laidByText := true, laidKinds := [.data, .data], laidTests := true, laidLooks := .later }
def SpanScaleIsPixelByPixelUptoCardSaid : Prop := Claim7.holds Tryd.pinned (.plain (OpenSpec.upto spanScaleIsPixelByPixelSpec)) spanScaleIsPixelByPixelUptoCard

/-- THE SECOND FORM's CARD OF 'compositorlaw16.SpanStepIsPixelByPixel'. -/
def spanStepIsPixelByPixelUptoCard : Claim7 := { stood := { row := spanStepIsPixelByPixelUptoRow, standIns := [], harness := (true, "f1515bd25338b69b5819184a1423610d0db4693a382396ef07a158399593cda7"), looks := false }, kinds := [], alts := [], laidByText := true, laidKinds := [.data, .data], laidTests := true, laidLooks := .later }
def SpanStepIsPixelByPixelUptoCardSaid : Prop := Claim7.holds Tryd.pinned (.plain (OpenSpec.upto spanStepIsPixelByPixelSpec)) spanStepIsPixelByPixelUptoCard

/-- THE SECOND FORM's CARD OF 'compositorlaw16.SpanOfNothing'. -/
def spanOfNothingUptoCard : Claim7 := { stood := { row := spanOfNothingUptoRow, standIns := [], harness := (true, "f1515bd25338b69b5819184a1423610d0db4693a382396ef07a158399593cda7"), looks := false }, kinds := [], alts := [], laidByText := true, laidKinds := [.data, .data], laidTests := true, laidLooks := .later }
def SpanOfNothingUptoCardSaid : Prop := Claim7.holds Tryd.pinned (.plain (OpenSpec.upto spanOfNothingSpec)) spanOfNothingUptoCard
end Rows
end Go.Proofs.YtfjhhadmncjdiaaDoor
