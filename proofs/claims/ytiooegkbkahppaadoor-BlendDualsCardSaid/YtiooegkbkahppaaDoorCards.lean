/-
  DERIVED. GIVEN WITH THE SEED: THE CARDS: each row of YtiooegkbkahppaaDoorRows.lean that lists a variable, with what it lists TIED to the program's text (the seventh form; the later family's looks); each row that meets fmt, with fmt's text TOLD by the authors' own Lean function (tested against real Go, not proved from fmt's source: count such statements apart). THE CARD IS WHAT COUNTS. Prove the row's statement (the work); the ties are given (YtiooegkbkahppaaDoorTie.lean); close each card by the builder's one call (the guide's Derived/Test/ToyasCard.lean, 'card_holds'). Laid BY PROGRAM, IN A SANDBOX (cutbox-door.mjs). By AI agents, Wed Nov 11 2026. No macro, syntax, notation, axiom, sorry.
-/
import Derived.Test.YtiooegkbkahppaaDoorRows
import GoSem.ClaimSeven
namespace Go.Proofs.YtiooegkbkahppaaDoor
namespace Rows

/-- THE TIED CARD OF 'compositorlaw06.BlendExactAgrees'. -/
def blendExactAgreesCard : Claim7 := { stood := { row := blendExactAgreesRow, standIns := [], harness := (true, "76095d0fb3fcdb2c46308ff3996332736eade6299e4184ad1934a11ca88fd95d"), looks := false }, kinds := [], alts := [], laidByText := true, laidKinds := [.data], laidTests := true, laidLooks := .later }
def BlendExactAgreesCardSaid : Prop := Claim7.holds Tryd.pinned (.plain (OpenSpec.ofChange blendExactAgreesSpec)) blendExactAgreesCard

/-- THE TIED CARD OF 'compositorlaw06.BlendRejects'. -/
def blendRejectsCard : Claim7 := { stood := { row := blendRejectsRow, standIns := [], harness := (true, "76095d0fb3fcdb2c46308ff3996332736eade6299e4184ad1934a11ca88fd95d"), looks := false }, kinds := [], alts := [], laidByText := true, laidKinds := [.data], laidTests := true, laidLooks := .later }
def BlendRejectsCardSaid : Prop := Claim7.holds Tryd.pinned (.plain (OpenSpec.ofChange blendRejectsSpec)) blendRejectsCard

/-- THE TIED CARD OF 'compositorlaw06.BlendStaysInRange'. -/
def blendStaysInRangeCard : Claim7 := { stood := { row := blendStaysInRangeRow, standIns := [], harness := (true, "76095d0fb3fcdb2c46308ff3996332736eade6299e4184ad1934a11ca88fd95d"), looks := false }, kinds := [], alts := [], laidByText := true, laidKinds := [.data], laidTests := true, laidLooks := .later }
def BlendStaysInRangeCardSaid : Prop := Claim7.holds Tryd.pinned (.plain (OpenSpec.ofChange blendStaysInRangeSpec)) blendStaysInRangeCard

/-- THE TIED CARD OF 'compositorlaw06.BlendSwaps'. -/
def blendSwapsCard : Claim7 := { stood := { row := blendSwapsRow, standIns := [], harness := (true, "76095d0fb3fcdb2c46308ff3996332736eade6299e4184ad1934a11ca88fd95d"), looks := false }, kinds := [], alts := [], laidByText := true, laidKinds := [.data], laidTests := true, laidLooks := .later }
def BlendSwapsCardSaid : Prop := Claim7.holds Tryd.pinned (.plain (OpenSpec.ofChange blendSwapsSpec)) blendSwapsCard

/-- THE TIED CARD OF 'compositorlaw06.BlendDuals'. -/
def blendDualsCard : Claim7 := { stood := { row := blendDualsRow, standIns := [], harness := (true, "76095d0fb3fcdb2c46308ff3996332736eade6299e4184ad1934a11ca88fd95d"), looks := false }, kinds := [], alts := [], laidByText := true, laidKinds := [.data], laidTests := true, laidLooks := .later }
def BlendDualsCardSaid : Prop := Claim7.holds Tryd.pinned (.plain (OpenSpec.ofChange blendDualsSpec)) blendDualsCard

/-- THE TIED CARD OF 'compositorlaw06.BlendNeutralColours'. -/
def blendNeutralColoursCard : Claim7 := { stood := { row := blendNeutralColoursRow, standIns := [], harness := (true, "76095d0fb3fcdb2c46308ff3996332736eade6299e4184ad1934a11ca88fd95d"), looks := false }, kinds := [], alts := [], laidByText := true, laidKinds := [.data], laidTests := true, laidLooks := .later }
def BlendNeutralColoursCardSaid : Prop := Claim7.holds Tryd.pinned (.plain (OpenSpec.ofChange blendNeutralColoursSpec)) blendNeutralColoursCard

/-- THE TIED CARD OF 'compositorlaw06.BlendStraightAgrees'. -/
def blendStraightAgreesCard : Claim7 := { stood := { row := blendStraightAgreesRow, standIns := [], harness := (true, "76095d0fb3fcdb2c46308ff3996332736eade6299e4184ad1934a11ca88fd95d"), looks := false }, kinds := [], alts := [], laidByText := true, laidKinds := [.data], laidTests := true, laidLooks := .later }
def BlendStraightAgreesCardSaid : Prop := Claim7.holds Tryd.pinned (.plain (OpenSpec.ofChange blendStraightAgreesSpec)) blendStraightAgreesCard

/-- THE TIED CARD OF 'compositorlaw06.BlendOfTheTransparent'. -/
def blendOfTheTransparentCard : Claim7 := { stood := { row := blendOfTheTransparentRow, standIns := [], harness := (true, "76095d0fb3fcdb2c46308ff3996332736eade6299e4184ad1934a11ca88fd95d"), looks := false }, kinds := [], alts := [], laidByText := true, laidKinds := [.data], laidTests := true, laidLooks := .later }
def BlendOfTheTransparentCardSaid : Prop := Claim7.holds Tryd.pinned (.plain (OpenSpec.ofChange blendOfTheTransparentSpec)) blendOfTheTransparentCard

/-- THE TIED CARD OF 'compositorlaw06.BlendNames'. -/
def blendNamesCard : Claim7 := { stood := { row := blendNamesRow, standIns := [], harness := (true, "76095d0fb3fcdb2c46308ff3996332736eade6299e4184ad1934a11ca88fd95d"), looks := false }, kinds := [], alts := [], laidByText := true, laidKinds := [.data], laidTests := true, laidLooks := .later }
def BlendNamesCardSaid : Prop := Claim7.holds Tryd.pinned (.plain (OpenSpec.ofChange blendNamesSpec)) blendNamesCard

/-- THE SECOND FORM's CARD OF 'compositorlaw06.BlendExactAgrees'. -/
def blendExactAgreesUptoCard : Claim7 := { stood := { row := blendExactAgreesUptoRow, standIns := [], harness := (true, "76095d0fb3fcdb2c46308ff3996332736eade6299e4184ad1934a11ca88fd95d"), looks := false }, kinds := [], alts := [], laidByText := true, laidKinds := [.data], laidTests := true, laidLooks := .later }
def BlendExactAgreesUptoCardSaid : Prop := Claim7.holds Tryd.pinned (.plain (OpenSpec.upto blendExactAgreesSpec)) blendExactAgreesUptoCard

/-- THE SECOND FORM's CARD OF 'compositorlaw06.BlendRejects'. -/
def blendRejectsUptoCard : Claim7 := { stood := { row := blendRejectsUptoRow, standIns := [], harness := (true, "76095d0fb3fcdb2c46308ff3996332736eade6299e4184ad1934a11ca88fd95d"), looks := false }, kinds := [], alts := [], laidByText := true, laidKinds := [.data], laidTests := true, laidLooks := .later }
def BlendRejectsUptoCardSaid : Prop := Claim7.holds Tryd.pinned (.plain (OpenSpec.upto blendRejectsSpec)) blendRejectsUptoCard

/-- THE SECOND FORM's CARD OF 'compositorlaw06.BlendStaysInRange'. -/
def blendStaysInRangeUptoCard : Claim7 := { stood := { row := blendStaysInRangeUptoRow, standIns := [], harness := (true, "76095d0fb3fcdb2c46308ff3996332736eade6299e4184ad1934a11ca88fd95d"), looks := false }, kinds := [], alts := [], laidByText := true, laidKinds := [.data], laidTests := true, laidLooks := .later }
def BlendStaysInRangeUptoCardSaid : Prop := Claim7.holds Tryd.pinned (.plain (OpenSpec.upto blendStaysInRangeSpec)) blendStaysInRangeUptoCard

/-- THE SECOND FORM's CARD OF 'compositorlaw06.BlendSwaps'. -/
def blendSwapsUptoCard : Claim7 := { stood := { row := blendSwapsUptoRow, standIns := [], harness := (true, "76095d0fb3fcdb2c46308ff3996332736eade6299e4184ad1934a11ca88fd95d"), looks := false }, kinds := [], alts := [], laidByText := true, laidKinds := [.data], laidTests := true, laidLooks := .later }
def BlendSwapsUptoCardSaid : Prop := Claim7.holds Tryd.pinned (.plain (OpenSpec.upto blendSwapsSpec)) blendSwapsUptoCard

/-- THE SECOND FORM's CARD OF 'compositorlaw06.BlendDuals'. -/
def blendDualsUptoCard : Claim7 := { stood := { row := blendDualsUptoRow, standIns := [], harness := (true, "76095d0fb3fcdb2c46308ff3996332736eade6299e4184ad1934a11ca88fd95d"), looks := false }, kinds := [], alts := [], laidByText := true, laidKinds := [.data], laidTests := true, laidLooks := .later }
def BlendDualsUptoCardSaid : Prop := Claim7.holds Tryd.pinned (.plain (OpenSpec.upto blendDualsSpec)) blendDualsUptoCard

/-- THE SECOND FORM's CARD OF 'compositorlaw06.BlendNeutralColours'. -/
def blendNeutralColoursUptoCard : Claim7 := { stood := { row := blendNeutralColoursUptoRow, standIns := [], harness := (true, "76095d0fb3fcdb2c46308ff3996332736eade6299e4184ad1934a11ca88fd95d"), looks := false }, kinds := [], alts := [], laidByText := true, laidKinds := [.data], laidTests := true, laidLooks := .later }
def BlendNeutralColoursUptoCardSaid : Prop := Claim7.holds Tryd.pinned (.plain (OpenSpec.upto blendNeutralColoursSpec)) blendNeutralColoursUptoCard

/-- THE SECOND FORM's CARD OF 'compositorlaw06.BlendStraightAgrees'. -/
def blendStraightAgreesUptoCard : Claim7 := { stood := { row := blendStraightAgreesUptoRow, standIns := [], harness := (true, "76095d0fb3fcdb2c46308ff3996332736eade6299e4184ad1934a11ca88fd95d"), looks := false }, kinds := [], alts := [], laidByText := true, laidKinds := [.data], laidTests := true, laidLooks := .later }
def BlendStraightAgreesUptoCardSaid : Prop := Claim7.holds Tryd.pinned (.plain (OpenSpec.upto blendStraightAgreesSpec)) blendStraightAgreesUptoCard

/-- THE SECOND FORM's CARD OF 'compositorlaw06.BlendOfTheTransparent'. -/
def blendOfTheTransparentUptoCard : Claim7 := { stood := { row := blendOfTheTransparentUptoRow, standIns := [], harness := (true, "76095d0fb3fcdb2c46308ff3996332736eade6299e4184ad1934a11ca88fd95d"), looks := false }, kinds := [], alts := [], laidByText := true, laidKinds := [.data], laidTests := true, laidLooks := .later }
def BlendOfTheTransparentUptoCardSaid : Prop := Claim7.holds Tryd.pinned (.plain (OpenSpec.upto blendOfTheTransparentSpec)) blendOfTheTransparentUptoCard

/-- THE SECOND FORM's CARD OF 'compositorlaw06.BlendNames'. -/
def blendNamesUptoCard : Claim7 := { stood := { row := blendNamesUptoRow, standIns := [], harness := (true, "76095d0fb3fcdb2c46308ff3996332736eade6299e4184ad1934a11ca88fd95d"), looks := false }, kinds := [], alts := [], laidByText := true, laidKinds := [.data], laidTests := true, laidLooks := .later }
def BlendNamesUptoCardSaid : Prop := Claim7.holds Tryd.pinned (.plain (OpenSpec.upto blendNamesSpec)) blendNamesUptoCard
end Rows
end Go.Proofs.YtiooegkbkahppaaDoor
