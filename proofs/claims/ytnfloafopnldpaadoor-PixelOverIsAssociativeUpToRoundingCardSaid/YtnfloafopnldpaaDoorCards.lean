/-
  DERIVED. GIVEN WITH THE SEED: THE CARDS: each row of YtnfloafopnldpaaDoorRows.lean that lists a variable, with what it lists TIED to the program's text (the seventh form; the later family's looks); each row that meets fmt, with fmt's text TOLD by the authors' own Lean function (tested against real Go, not proved from fmt's source: count such statements apart). THE CARD IS WHAT COUNTS. Prove the row's statement (the work); the ties are given (YtnfloafopnldpaaDoorTie.lean); close each card by the builder's one call (the guide's Derived/Test/ToyasCard.lean, 'card_holds'). Laid BY PROGRAM, IN A SANDBOX (cutbox-door.mjs). By AI agents, Wed Nov 11 2026. No macro, syntax, notation, axiom, sorry.
-/
import Derived.Test.YtnfloafopnldpaaDoorRows
import GoSem.ClaimSeven
namespace Go.Proofs.YtnfloafopnldpaaDoor
namespace Rows

/-- THE TIED CARD OF 'compositorlaw09.PixelClasses'. -/
def pixelClassesCard : Claim7 := { stood := { row := pixelClassesRow, standIns := [], harness := (true, "529573e3774190fb8d70104d2b7ba4c522b46a96d9d4740346b9de1a435f4728"), looks := false }, kinds := [], alts := [], laidByText := true, laidKinds := [.data], laidTests := true, laidLooks := .later }
def PixelClassesCardSaid : Prop := Claim7.holds Tryd.pinned (.plain (OpenSpec.ofChange pixelClassesSpec)) pixelClassesCard

/-- THE TIED CARD OF 'compositorlaw09.PixelCompositeAgrees'. -/
def pixelCompositeAgreesCard : Claim7 := { stood := { row := pixelCompositeAgreesRow, standIns := [], harness := (true, "529573e3774190fb8d70104d2b7ba4c522b46a96d9d4740346b9de1a435f4728"), looks := false }, kinds := [], alts := [], laidByText := true, laidKinds := [.data], laidTests := true, laidLooks := .later }
def PixelCompositeAgreesCardSaid : Prop := Claim7.holds Tryd.pinned (.plain (OpenSpec.ofChange pixelCompositeAgreesSpec)) pixelCompositeAgreesCard

/-- THE TIED CARD OF 'compositorlaw09.PixelRejectsOneSample'. -/
def pixelRejectsOneSampleCard : Claim7 := { stood := { row := pixelRejectsOneSampleRow, standIns := [], harness := (true, "529573e3774190fb8d70104d2b7ba4c522b46a96d9d4740346b9de1a435f4728"), looks := false }, kinds := [], alts := [], laidByText := true, laidKinds := [.data], laidTests := true, laidLooks := .later }
def PixelRejectsOneSampleCardSaid : Prop := Claim7.holds Tryd.pinned (.plain (OpenSpec.ofChange pixelRejectsOneSampleSpec)) pixelRejectsOneSampleCard

/-- THE TIED CARD OF 'compositorlaw09.PixelStaysValid'. -/
def pixelStaysValidCard : Claim7 := { stood := { row := pixelStaysValidRow, standIns := [], harness := (true, "529573e3774190fb8d70104d2b7ba4c522b46a96d9d4740346b9de1a435f4728"), looks := false }, kinds := [], alts := [], laidByText := true, laidKinds := [.data], laidTests := true, laidLooks := .later }
def PixelStaysValidCardSaid : Prop := Claim7.holds Tryd.pinned (.plain (OpenSpec.ofChange pixelStaysValidSpec)) pixelStaysValidCard

/-- THE TIED CARD OF 'compositorlaw09.PixelIdentities'. -/
def pixelIdentitiesCard : Claim7 := { stood := { row := pixelIdentitiesRow, standIns := [], harness := (true, "529573e3774190fb8d70104d2b7ba4c522b46a96d9d4740346b9de1a435f4728"), looks := false }, kinds := [], alts := [], laidByText := true, laidKinds := [.data], laidTests := true, laidLooks := .later }
def PixelIdentitiesCardSaid : Prop := Claim7.holds Tryd.pinned (.plain (OpenSpec.ofChange pixelIdentitiesSpec)) pixelIdentitiesCard

/-- THE TIED CARD OF 'compositorlaw09.PixelOverIsAssociativeUpToRounding'. -/
def pixelOverIsAssociativeUpToRoundingCard : Claim7 := { stood := { row := pixelOverIsAssociativeUpToRoundingRow, standIns := [], harness := (true, "529573e3774190fb8d70104d2b7ba4c522b46a96d9d4740346b9de1a435f4728"), looks := false }, kinds := [], alts := [], laidByText := true, laidKinds := [.data], laidTests := true, laidLooks := .later }
def PixelOverIsAssociativeUpToRoundingCardSaid : Prop := Claim7.holds Tryd.pinned (.plain (OpenSpec.ofChange pixelOverIsAssociativeUpToRoundingSpec)) pixelOverIsAssociativeUpToRoundingCard

/-- THE SECOND FORM's CARD OF 'compositorlaw09.PixelClasses'. -/
def pixelClassesUptoCard : Claim7 := { stood := { row := pixelClassesUptoRow, standIns := [], harness := (true, "529573e3774190fb8d70104d2b7ba4c522b46a96d9d4740346b9de1a435f4728"), looks := false }, kinds := [], alts := [], laidByText := true, laidKinds := [.data], laidTests := true, laidLooks := .later }
def PixelClassesUptoCardSaid : Prop := Claim7.holds Tryd.pinned (.plain (OpenSpec.upto pixelClassesSpec)) pixelClassesUptoCard

/-- THE SECOND FORM's CARD OF 'compositorlaw09.PixelCompositeAgrees'. -/
def pixelCompositeAgreesUptoCard : Claim7 := { stood := { row := pixelCompositeAgreesUptoRow, standIns := [], harness := (true, "529573e3774190fb8d70104d2b7ba4c522b46a96d9d4740346b9de1a435f4728"), looks := false }, kinds := [], alts := [], laidByText := true, laidKinds := [.data], laidTests := true, laidLooks := .later }
def PixelCompositeAgreesUptoCardSaid : Prop := Claim7.holds Tryd.pinned (.plain (OpenSpec.upto pixelCompositeAgreesSpec)) pixelCompositeAgreesUptoCard

/-- THE SECOND FORM's CARD OF 'compositorlaw09.PixelRejectsOneSample'. -/
def pixelRejectsOneSampleUptoCard : Claim7 := { stood := { row := pixelRejectsOneSampleUptoRow, standIns := [], harness := (true, "529573e3774190fb8d70104d2b7ba4c522b46a96d9d4740346b9de1a435f4728"), looks := false }, kinds := [], alts := [], laidByText := true, laidKinds := [.data], laidTests := true, laidLooks := .later }
def PixelRejectsOneSampleUptoCardSaid : Prop := Claim7.holds Tryd.pinned (.plain (OpenSpec.upto pixelRejectsOneSampleSpec)) pixelRejectsOneSampleUptoCard

/-- THE SECOND FORM's CARD OF 'compositorlaw09.PixelStaysValid'. -/
def pixelStaysValidUptoCard : Claim7 := { stood := { row := pixelStaysValidUptoRow, standIns := [], harness := (true, "529573e3774190fb8d70104d2b7ba4c522b46a96d9d4740346b9de1a435f4728"), looks := false }, kinds := [], alts := [], laidByText := true, laidKinds := [.data], laidTests := true, laidLooks := .later }
def PixelStaysValidUptoCardSaid : Prop := Claim7.holds Tryd.pinned (.plain (OpenSpec.upto pixelStaysValidSpec)) pixelStaysValidUptoCard

/-- THE SECOND FORM's CARD OF 'compositorlaw09.PixelIdentities'. -/
def pixelIdentitiesUptoCard : Claim7 := { stood := { row := pixelIdentitiesUptoRow, standIns := [], harness := (true, "529573e3774190fb8d70104d2b7ba4c522b46a96d9d4740346b9de1a435f4728"), looks := false }, kinds := [], alts := [], laidByText := true, laidKinds := [.data], laidTests := true, laidLooks := .later }
def PixelIdentitiesUptoCardSaid : Prop := Claim7.holds Tryd.pinned (.plain (OpenSpec.upto pixelIdentitiesSpec)) pixelIdentitiesUptoCard

/-- THE SECOND FORM's CARD OF 'compositorlaw09.PixelOverIsAssociativeUpToRounding'. -/
def pixelOverIsAssociativeUpToRoundingUptoCard : Claim7 := { stood := { row := pixelOverIsAssociativeUpToRoundingUptoRow, standIns := [], harness := (true, "529573e3774190fb8d70104d2b7ba4c522b46a96d9d4740346b9de1a435f4728"), looks := false }, kinds := [], alts := [], laidByText := true, laidKinds := [.data], laidTests := true, laidLooks := .later }
def PixelOverIsAssociativeUpToRoundingUptoCardSaid : Prop := Claim7.holds Tryd.pinned (.plain (OpenSpec.upto pixelOverIsAssociativeUpToRoundingSpec)) pixelOverIsAssociativeUpToRoundingUptoCard
end Rows
end Go.Proofs.YtnfloafopnldpaaDoor
