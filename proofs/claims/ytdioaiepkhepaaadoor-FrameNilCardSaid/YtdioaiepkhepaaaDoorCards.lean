/-
  DERIVED. GIVEN WITH THE SEED: THE CARDS: each row of YtdioaiepkhepaaaDoorRows.lean that lists a variable, with what it lists TIED to the program's text (the seventh form; the later family's looks); each row that meets fmt, with fmt's text TOLD by the authors' own Lean function (tested against real Go, not proved from fmt's source: count such statements apart). THE CARD IS WHAT COUNTS. Prove the row's statement (the work); the ties are given (YtdioaiepkhepaaaDoorTie.lean); close each card by the builder's one call (the guide's Derived/Test/ToyasCard.lean, 'card_holds'). Laid BY PROGRAM, IN A SANDBOX (cutbox-door.mjs). By AI agents, Wed Nov 11 2026. No macro, syntax, notation, axiom, sorry.
-/
import Derived.Test.YtdioaiepkhepaaaDoorRows
import GoSem.ClaimSeven
namespace Go.Proofs.YtdioaiepkhepaaaDoor
namespace Rows

/-- THE TIED CARD OF 'compositorlaw22.FrameNewRejects'. -/
def frameNewRejectsCard : Claim7 := { stood := { row := frameNewRejectsRow, standIns := [], harness := (true, "448a7ab209b65a7d57ff30de12ce45947b8befadc5fc0ea41447c289a4fcb6ec"), looks := false }, kinds := [], alts := [], laidByText := true, laidKinds := [.data], laidTests := true, laidLooks := .later }
def FrameNewRejectsCardSaid : Prop := Claim7.holds Tryd.pinned (.plain (OpenSpec.ofChange frameNewRejectsSpec)) frameNewRejectsCard

/-- THE TIED CARD OF 'compositorlaw22.FrameScaledSource'. -/
def frameScaledSourceCard : Claim7 := { stood := { row := frameScaledSourceRow, standIns := [], harness := (true, "448a7ab209b65a7d57ff30de12ce45947b8befadc5fc0ea41447c289a4fcb6ec"), looks := false }, kinds := [], alts := [], laidByText := true, laidKinds := [.data], laidTests := true, laidLooks := .later }
def FrameScaledSourceCardSaid : Prop := Claim7.holds Tryd.pinned (.plain (OpenSpec.ofChange frameScaledSourceSpec)) frameScaledSourceCard

/-- THE TIED CARD OF 'compositorlaw22.FrameNests'. -/
def frameNestsCard : Claim7 := { stood := { row := frameNestsRow, standIns := [], harness := (true, "448a7ab209b65a7d57ff30de12ce45947b8befadc5fc0ea41447c289a4fcb6ec"), looks := false }, kinds := [], alts := [], laidByText := true, laidKinds := [.data], laidTests := true, laidLooks := .later }
def FrameNestsCardSaid : Prop := Claim7.holds Tryd.pinned (.plain (OpenSpec.ofChange frameNestsSpec)) frameNestsCard

/-- THE TIED CARD OF 'compositorlaw22.FrameNil'. -/
def frameNilCard : Claim7 := { stood := { row := frameNilRow, standIns := [], harness := (true, "448a7ab209b65a7d57ff30de12ce45947b8befadc5fc0ea41447c289a4fcb6ec"), looks := false }, kinds := [], alts := [], laidByText := true, laidKinds := [.data], laidTests := true, laidLooks := .later }
def FrameNilCardSaid : Prop := Claim7.holds Tryd.pinned (.plain (OpenSpec.ofChange frameNilSpec)) frameNilCard

/-- THE SECOND FORM's CARD OF 'compositorlaw22.FrameNewRejects'. -/
def frameNewRejectsUptoCard : Claim7 := { stood := { row := frameNewRejectsUptoRow, standIns := [], harness := (true, "448a7ab209b65a7d57ff30de12ce45947b8befadc5fc0ea41447c289a4fcb6ec"), looks := false }, kinds := [], alts := [], laidByText := true, laidKinds := [.data], laidTests := true, laidLooks := .later }
def FrameNewRejectsUptoCardSaid : Prop := Claim7.holds Tryd.pinned (.plain (OpenSpec.upto frameNewRejectsSpec)) frameNewRejectsUptoCard

/-- THE SECOND FORM's CARD OF 'compositorlaw22.FrameScaledSource'. -/
def frameScaledSourceUptoCard : Claim7 := { stood := { row := frameScaledSourceUptoRow, standIns := [], harness := (true, "448a7ab209b65a7d57ff30de12ce45947b8befadc5fc0ea41447c289a4fcb6ec"), looks := false }, kinds := [], alts := [], laidByText := true, laidKinds := [.data], laidTests := true, laidLooks := .later }
def FrameScaledSourceUptoCardSaid : Prop := Claim7.holds Tryd.pinned (.plain (OpenSpec.upto frameScaledSourceSpec)) frameScaledSourceUptoCard

/-- THE SECOND FORM's CARD OF 'compositorlaw22.FrameNests'. -/
def frameNestsUptoCard : Claim7 := { stood := { row := frameNestsUptoRow, standIns := [], harness := (true, "448a7ab209b65a7d57ff30de12ce45947b8befadc5fc0ea41447c289a4fcb6ec"), looks := false }, kinds := [], alts := [], laidByText := true, laidKinds := [.data], laidTests := true, laidLooks := .later }
def FrameNestsUptoCardSaid : Prop := Claim7.holds Tryd.pinned (.plain (OpenSpec.upto frameNestsSpec)) frameNestsUptoCard

/-- THE SECOND FORM's CARD OF 'compositorlaw22.FrameNil'. -/
def frameNilUptoCard : Claim7 := { stood := { row := frameNilUptoRow, standIns := [], harness := (true, "448a7ab209b65a7d57ff30de12ce45947b8befadc5fc0ea41447c289a4fcb6ec"), looks := false }, kinds := [], alts := [], laidByText := true, laidKinds := [.data], laidTests := true, laidLooks := .later }
def FrameNilUptoCardSaid : Prop := Claim7.holds Tryd.pinned (.plain (OpenSpec.upto frameNilSpec)) frameNilUptoCard
end Rows
end Go.Proofs.YtdioaiepkhepaaaDoor
