/-
  DERIVED. GIVEN WITH THE SEED: THE CARDS: each row of YtdioaiepkhepaaaGreatDoorRows.lean that lists a variable, with what it lists TIED to the program's text (the seventh form; the later family's looks); each row that meets fmt, with fmt's text TOLD by the authors' own Lean function (tested against real Go, not proved from fmt's source: count such statements apart). THE CARD IS WHAT COUNTS. Prove the row's statement (the work); the ties are given (YtdioaiepkhepaaaGreatDoorTie.lean); close each card by the builder's one call (the guide's Derived/Test/ToyasCard.lean, 'card_holds'). Laid BY PROGRAM, IN A SANDBOX (cutbox-door.mjs). By AI agents, Wed Nov 11 2026. No macro, syntax, notation, axiom, sorry.
-/
import Derived.Test.YtdioaiepkhepaaaGreatDoorRows
import GoSem.ClaimSeven
namespace Go.Proofs.YtdioaiepkhepaaaGreatDoor
namespace Rows

/-- THE TIED CARD OF 'compositorlaw22.FrameAgrees'. -/
def frameAgreesCard : Claim7 := { stood := { row := frameAgreesRow, standIns := [], harness := (true, "b47b8322e11eae82af89293bfcf454cd315f9883c52a0fc45b6079570b52b998"), looks := false }, kinds := [], alts := [], laidByText := true, laidKinds := [.data], laidTests := true, laidLooks := .later }
def FrameAgreesCardSaid : Prop := Claim7.holds Tryz.pinned (.plain (OpenSpec.ofChange frameAgreesSpec)) frameAgreesCard

/-- THE TIED CARD OF 'compositorlaw22.FrameRejectsWithoutEffect'. -/
def frameRejectsWithoutEffectCard : Claim7 := { stood := { row := frameRejectsWithoutEffectRow, standIns := [], harness := (true, "b47b8322e11eae82af89293bfcf454cd315f9883c52a0fc45b6079570b52b998"), looks := false }, kinds := [], alts := [], laidByText := true, laidKinds := [.data], laidTests := true, laidLooks := .later }
def FrameRejectsWithoutEffectCardSaid : Prop := Claim7.holds Tryz.pinned (.plain (OpenSpec.ofChange frameRejectsWithoutEffectSpec)) frameRejectsWithoutEffectCard

/-- THE TIED CARD OF 'compositorlaw22.FrameForksApart'. -/
def frameForksApartCard : Claim7 := { stood := { row := frameForksApartRow, standIns := [], harness := (true, "b47b8322e11eae82af89293bfcf454cd315f9883c52a0fc45b6079570b52b998"), looks := false }, kinds := [], alts := [], laidByText := true, laidKinds := [.data], laidTests := true, laidLooks := .later }
def FrameForksApartCardSaid : Prop := Claim7.holds Tryz.pinned (.plain (OpenSpec.ofChange frameForksApartSpec)) frameForksApartCard

/-- THE SECOND FORM's CARD OF 'compositorlaw22.FrameAgrees'. -/
def frameAgreesUptoCard : Claim7 := { stood := { row := frameAgreesUptoRow, standIns := [], harness := (true, "b47b8322e11eae82af89293bfcf454cd315f9883c52a0fc45b6079570b52b998"), looks := false }, kinds := [], alts := [], laidByText := true, laidKinds := [.data], laidTests := true, laidLooks := .later }
def FrameAgreesUptoCardSaid : Prop := Claim7.holds Tryz.pinned (.plain (OpenSpec.upto frameAgreesSpec)) frameAgreesUptoCard

/-- THE SECOND FORM's CARD OF 'compositorlaw22.FrameRejectsWithoutEffect'. -/
def frameRejectsWithoutEffectUptoCard : Claim7 := { stood := { row := frameRejectsWithoutEffectUptoRow, standIns := [], harness := (true, "b47b8322e11eae82af89293bfcf454cd315f9883c52a0fc45b6079570b52b998"), looks := false }, kinds := [], alts := [], laidByText := true, laidKinds := [.data], laidTests := true, laidLooks := .later }
def FrameRejectsWithoutEffectUptoCardSaid : Prop := Claim7.holds Tryz.pinned (.plain (OpenSpec.upto frameRejectsWithoutEffectSpec)) frameRejectsWithoutEffectUptoCard

/-- THE SECOND FORM's CARD OF 'compositorlaw22.FrameForksApart'. -/
def frameForksApartUptoCard : Claim7 := { stood := { row := frameForksApartUptoRow, standIns := [], harness := (true, "b47b8322e11eae82af89293bfcf454cd315f9883c52a0fc45b6079570b52b998"), looks := false }, kinds := [], alts := [], laidByText := true, laidKinds := [.data], laidTests := true, laidLooks := .later }
def FrameForksApartUptoCardSaid : Prop := Claim7.holds Tryz.pinned (.plain (OpenSpec.upto frameForksApartSpec)) frameForksApartUptoCard
end Rows
end Go.Proofs.YtdioaiepkhepaaaGreatDoor
