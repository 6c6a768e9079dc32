/-
  DERIVED. GIVEN WITH THE SEED: THE CARDS: each row of YthldhjipjihmoaaDoorRows.lean that lists a variable, with what it lists TIED to the program's text (the seventh form; the later family's looks); each row that meets fmt, with fmt's text TOLD by the authors' own Lean function (tested against real Go, not proved from fmt's source: count such statements apart). THE CARD IS WHAT COUNTS. Prove the row's statement (the work); the ties are given (YthldhjipjihmoaaDoorTie.lean); close each card by the builder's one call (the guide's Derived/Test/ToyasCard.lean, 'card_holds'). Laid BY PROGRAM, IN A SANDBOX (cutbox-door.mjs). By AI agents, Wed Nov 11 2026. No macro, syntax, notation, axiom, sorry.
-/
import Derived.Test.YthldhjipjihmoaaDoorRows
import GoSem.ClaimSeven
namespace Go.Proofs.YthldhjipjihmoaaDoor
namespace Rows

/-- THE TIED CARD OF 'compositorlaw08.MixAgrees'. -/
def mixAgreesCard : Claim7 := { stood := { row := mixAgreesRow, standIns := [], harness := (true, "36e9325a1bfb5133d90f42ae26dc305ba30bf2ede8253c379f5930be3f1c7f21"), looks := false }, kinds := [], alts := [], laidByText := true, laidKinds := [.data], laidTests := true, laidLooks := .later }
def MixAgreesCardSaid : Prop := Claim7.holds Tryd.pinned (.plain (OpenSpec.ofChange mixAgreesSpec)) mixAgreesCard

/-- THE TIED CARD OF 'compositorlaw08.MixAgreesForAll'. -/
def mixAgreesForAllCard : Claim7 := { stood := { row := mixAgreesForAllRow, standIns := [], harness := (true, "36e9325a1bfb5133d90f42ae26dc305ba30bf2ede8253c379f5930be3f1c7f21"), looks := false }, kinds := [], alts := [], laidByText := true, laidKinds := [.data], laidTests := true, laidLooks := .later }
def MixAgreesForAllCardSaid : Prop := Claim7.holds Tryd.pinned (.plain (OpenSpec.ofChange mixAgreesForAllSpec)) mixAgreesForAllCard

/-- THE TIED CARD OF 'compositorlaw08.MixValueAgrees'. -/
def mixValueAgreesCard : Claim7 := { stood := { row := mixValueAgreesRow, standIns := [], harness := (true, "36e9325a1bfb5133d90f42ae26dc305ba30bf2ede8253c379f5930be3f1c7f21"), looks := false }, kinds := [], alts := [], laidByText := true, laidKinds := [.data], laidTests := true, laidLooks := .later }
def MixValueAgreesCardSaid : Prop := Claim7.holds Tryd.pinned (.plain (OpenSpec.ofChange mixValueAgreesSpec)) mixValueAgreesCard

/-- THE TIED CARD OF 'compositorlaw08.MixNormalIsTheClassic'. -/
def mixNormalIsTheClassicCard : Claim7 := { stood := { row := mixNormalIsTheClassicRow, standIns := [], harness := (true, "36e9325a1bfb5133d90f42ae26dc305ba30bf2ede8253c379f5930be3f1c7f21"), looks := false }, kinds := [], alts := [], laidByText := true, laidKinds := [.data], laidTests := true, laidLooks := .later }
def MixNormalIsTheClassicCardSaid : Prop := Claim7.holds Tryd.pinned (.plain (OpenSpec.ofChange mixNormalIsTheClassicSpec)) mixNormalIsTheClassicCard

/-- THE TIED CARD OF 'compositorlaw08.MixIgnoresModeWithoutOverlap'. -/
def mixIgnoresModeWithoutOverlapCard : Claim7 := { stood := { row := mixIgnoresModeWithoutOverlapRow, standIns := [], harness := (true, "36e9325a1bfb5133d90f42ae26dc305ba30bf2ede8253c379f5930be3f1c7f21"), looks := false }, kinds := [], alts := [], laidByText := true, laidKinds := [.data], laidTests := true, laidLooks := .later }
def MixIgnoresModeWithoutOverlapCardSaid : Prop := Claim7.holds Tryd.pinned (.plain (OpenSpec.ofChange mixIgnoresModeWithoutOverlapSpec)) mixIgnoresModeWithoutOverlapCard

/-- THE TIED CARD OF 'compositorlaw08.MixOfOpaqueColours'. -/
def mixOfOpaqueColoursCard : Claim7 := { stood := { row := mixOfOpaqueColoursRow, standIns := [], harness := (true, "36e9325a1bfb5133d90f42ae26dc305ba30bf2ede8253c379f5930be3f1c7f21"), looks := false }, kinds := [], alts := [], laidByText := true, laidKinds := [.data], laidTests := true, laidLooks := .later }
def MixOfOpaqueColoursCardSaid : Prop := Claim7.holds Tryd.pinned (.plain (OpenSpec.ofChange mixOfOpaqueColoursSpec)) mixOfOpaqueColoursCard

/-- THE TIED CARD OF 'compositorlaw10.KnockoutKeepsOrder'. -/
def knockoutKeepsOrderCard : Claim7 := { stood := { row := knockoutKeepsOrderRow, standIns := [], harness := (true, "36e9325a1bfb5133d90f42ae26dc305ba30bf2ede8253c379f5930be3f1c7f21"), looks := false }, kinds := [], alts := [], laidByText := true, laidKinds := [.data], laidTests := true, laidLooks := .later }
def KnockoutKeepsOrderCardSaid : Prop := Claim7.holds Tryd.pinned (.plain (OpenSpec.ofChange knockoutKeepsOrderSpec)) knockoutKeepsOrderCard

/-- THE TIED CARD OF 'compositorlaw08.MixColourBelowAlpha'. -/
def mixColourBelowAlphaCard : Claim7 := { stood := { row := mixColourBelowAlphaRow, standIns := [], harness := (true, "36e9325a1bfb5133d90f42ae26dc305ba30bf2ede8253c379f5930be3f1c7f21"), looks := false }, kinds := [], alts := [], laidByText := true, laidKinds := [.data], laidTests := true, laidLooks := .later }
def MixColourBelowAlphaCardSaid : Prop := Claim7.holds Tryd.pinned (.plain (OpenSpec.ofChange mixColourBelowAlphaSpec)) mixColourBelowAlphaCard

/-- THE TIED CARD OF 'compositorlaw10.KnockoutOfTheFirst'. -/
def knockoutOfTheFirstCard : Claim7 := { stood := { row := knockoutOfTheFirstRow, standIns := [], harness := (true, "36e9325a1bfb5133d90f42ae26dc305ba30bf2ede8253c379f5930be3f1c7f21"), looks := false }, kinds := [], alts := [], laidByText := true, laidKinds := [.data], laidTests := true, laidLooks := .later }
def KnockoutOfTheFirstCardSaid : Prop := Claim7.holds Tryd.pinned (.plain (OpenSpec.ofChange knockoutOfTheFirstSpec)) knockoutOfTheFirstCard

/-- THE SECOND FORM's CARD OF 'compositorlaw08.MixAgrees'. -/
def mixAgreesUptoCard : Claim7 := { stood := { row := mixAgreesUptoRow, standIns := [], harness := (true, "36e9325a1bfb5133d90f42ae26dc305ba30bf2ede8253c379f5930be3f1c7f21"), looks := false }, kinds := [], alts := [], laidByText := true, laidKinds := [.data], laidTests := true, laidLooks := .later }
def MixAgreesUptoCardSaid : Prop := Claim7.holds Tryd.pinned (.plain (OpenSpec.upto mixAgreesSpec)) mixAgreesUptoCard

/-- THE SECOND FORM's CARD OF 'compositorlaw08.MixAgreesForAll'. -/
def mixAgreesForAllUptoCard : Claim7 := { stood := { row := mixAgreesForAllUptoRow, standIns := [], harness := (true, "36e9325a1bfb5133d90f42ae26dc305ba30bf2ede8253c379f5930be3f1c7f21"), looks := false }, kinds := [], alts := [], laidByText := true, laidKinds := [.data], laidTests := true, laidLooks := .later }
def MixAgreesForAllUptoCardSaid : Prop := Claim7.holds Tryd.pinned (.plain (OpenSpec.upto mixAgreesForAllSpec)) mixAgreesForAllUptoCard

/-- THE SECOND FORM's CARD OF 'compositorlaw08.MixValueAgrees'. -/
def mixValueAgreesUptoCard : Claim7 := { stood := { row := mixValueAgreesUptoRow, standIns := [], harness := (true, "36e9325a1bfb5133d90f42ae26dc305ba30bf2ede8253c379f5930be3f1c7f21"), looks := false }, kinds := [], alts := [], laidByText := true, laidKinds := [.data], laidTests := true, laidLooks := .later }
def MixValueAgreesUptoCardSaid : Prop := Claim7.holds Tryd.pinned (.plain (OpenSpec.upto mixValueAgreesSpec)) mixValueAgreesUptoCard

/-- THE SECOND FORM's CARD OF 'compositorlaw08.MixNormalIsTheClassic'. -/
def mixNormalIsTheClassicUptoCard : Claim7 := { stood := { row := mixNormalIsTheClassicUptoRow, standIns := [], harness := (true, "36e9325a1bfb5133d90f42ae26dc305ba30bf2ede8253c379f5930be3f1c7f21"), looks := false }, kinds := [], alts := [], laidByText := true, laidKinds := [.data], laidTests := true, laidLooks := .later }
def MixNormalIsTheClassicUptoCardSaid : Prop := Claim7.holds Tryd.pinned (.plain (OpenSpec.upto mixNormalIsTheClassicSpec)) mixNormalIsTheClassicUptoCard

/-- THE SECOND FORM's CARD OF 'compositorlaw08.MixIgnoresModeWithoutOverlap'. -/
def mixIgnoresModeWithoutOverlapUptoCard : Claim7 := { stood := { row := mixIgnoresModeWithoutOverlapUptoRow, standIns := [], harness := (true, "36e9325a1bfb5133d90f42ae26dc305ba30bf2ede8253c379f5930be3f1c7f21"), looks := false }, kinds := [], alts := [], laidByText := true, laidKinds := [.data], laidTests := true, laidLooks := .later }
def MixIgnoresModeWithoutOverlapUptoCardSaid : Prop := Claim7.holds Tryd.pinned (.plain (OpenSpec.upto mixIgnoresModeWithoutOverlapSpec)) mixIgnoresModeWithoutOverlapUptoCard

/-- THE SECOND FORM's CARD OF 'compositorlaw08.MixOfOpaqueColours'. -/
def mixOfOpaqueColoursUptoCard : Claim7 := { stood := { row := mixOfOpaqueColoursUptoRow, standIns := [], harness := (true, "36e9325a1bfb5133d90f42ae26dc305ba30bf2ede8253c379f5930be3f1c7f21"), looks := false }, kinds := [], alts := [], laidByText := true, laidKinds := [.data], laidTests := true, laidLooks := .later }
def MixOfOpaqueColoursUptoCardSaid : Prop := Claim7.holds Tryd.pinned (.plain (OpenSpec.upto mixOfOpaqueColoursSpec)) mixOfOpaqueColoursUptoCard

/-- THE SECOND FORM's CARD OF 'compositorlaw10.KnockoutKeepsOrder'. -/
def knockoutKeepsOrderUptoCard : Claim7 := { stood := { row := knockoutKeepsOrderUptoRow, standIns := [], harness := (true, "36e9325a1bfb5133d90f42ae26dc305ba30bf2ede8253c379f5930be3f1c7f21"), looks := false }, kinds := [], alts := [], laidByText := true, laidKinds := [.data], laidTests := true, laidLooks := .later }
def KnockoutKeepsOrderUptoCardSaid : Prop := Claim7.holds Tryd.pinned (.plain (OpenSpec.upto knockoutKeepsOrderSpec)) knockoutKeepsOrderUptoCard

/-- THE SECOND FORM's CARD OF 'compositorlaw08.MixColourBelowAlpha'. -/
def mixColourBelowAlphaUptoCard : Claim7 := { stood := { row := mixColourBelowAlphaUptoRow, standIns := [], harness := (true, "36e9325a1bfb5133d90f42ae26dc305ba30bf2ede8253c379f5930be3f1c7f21"), looks := false }, kinds := [], alts := [], laidByText := true, laidKinds := [.data], laidTests := true, laidLooks := .later }
def MixColourBelowAlphaUptoCardSaid : Prop := Claim7.holds Tryd.pinned (.plain (OpenSpec.upto mixColourBelowAlphaSpec)) mixColourBelowAlphaUptoCard

/-- THE SECOND FORM's CARD OF 'compositorlaw10.KnockoutOfTheFirst'. -/
def knockoutOfTheFirstUptoCard : Claim7 := { stood := { row := knockoutOfTheFirstUptoRow, standIns := [], harness := (true, "36e9325a1bfb5133d90f42ae26dc305ba30bf2ede8253c379f5930be3f1c7f21"), looks := false }, kinds := [], alts := [], laidByText := true, laidKinds := [.data], laidTests := true, laidLooks := .later }
def KnockoutOfTheFirstUptoCardSaid : Prop := Claim7.holds Tryd.pinned (.plain (OpenSpec.upto knockoutOfTheFirstSpec)) knockoutOfTheFirstUptoCard
end Rows
end Go.Proofs.YthldhjipjihmoaaDoor
