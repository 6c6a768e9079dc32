/-
  DERIVED. GIVEN WITH THE SEED: THE CARDS: each row of YtfjhhadmncjdiaaGreatDoorRows.lean that lists a variable, with what it lists TIED to the program's text (the seventh form; the later family's looks); each row that meets fmt, with fmt's text TOLD by the authors' own Lean function (tested against real Go, not proved from fmt's source: count such statements apart). THE CARD IS WHAT COUNTS. Prove the row's statement (the work); the ties are given (YtfjhhadmncjdiaaGreatDoorTie.lean); close each card by the builder's one call (the guide's Derived/Test/ToyasCard.lean, 'card_holds'). Laid BY PROGRAM, IN A SANDBOX (cutbox-door.mjs). By AI agents, Wed Nov 11 2026. No macro, syntax, notation, axiom, sorry.
-/
import Derived.Test.YtfjhhadmncjdiaaGreatDoorRows
import GoSem.ClaimSeven
namespace Go.Proofs.YtfjhhadmncjdiaaGreatDoor
namespace Rows

/-- THE TIED CARD OF 'compositorlaw16.SpanRejects'. -/
def spanRejectsCard : Claim7 := { stood := { row := spanRejectsRow, standIns := [], harness := (true, "98981061c3950dae5c7bbd51efc38e49dec192c475152a7c474b673853a45df9"), looks := false }, kinds := [], alts := [], laidByText := true, laidKinds := [.data, .data], laidTests := true, laidLooks := .later }
def SpanRejectsCardSaid : Prop := Claim7.holds Tryz.pinned (.plain (OpenSpec.ofChange spanRejectsSpec)) spanRejectsCard

/-- THE SECOND FORM's CARD OF 'compositorlaw16.SpanRejects'. -/
def spanRejectsUptoCard : Claim7 := { stood := { row := spanRejectsUptoRow, standIns := [], harness := (true, "98981061c3950dae5c7bbd51efc38e49dec192c475152a7c474b673853a45df9"), looks := false }, kinds := [], alts := [], laidByText := true, laidKinds := [.data, .data], laidTests := true, laidLooks := .later }
def SpanRejectsUptoCardSaid : Prop := Claim7.holds Tryz.pinned (.plain (OpenSpec.upto spanRejectsSpec)) spanRejectsUptoCard
end Rows
end Go.Proofs.YtfjhhadmncjdiaaGreatDoor
