/-
  DERIVED. GIVEN WITH THE SEED: THE CARDS: each row of YtfdmmgiefhhnoaaGreatDoorRows.lean that lists a variable, with what it lists TIED to the program's text (the seventh form; the later family's looks); each row that meets fmt, with fmt's text TOLD by the authors' own Lean function (tested against real Go, not proved from fmt's source: count such statements apart). THE CARD IS WHAT COUNTS. Prove the row's statement (the work); the ties are given (YtfdmmgiefhhnoaaGreatDoorTie.lean); close each card by the builder's one call (the guide's Derived/Test/ToyasCard.lean, 'card_holds'). Laid BY PROGRAM, IN A SANDBOX (cutbox-door.mjs). By AI agents, Wed Nov 11 2026. No macro, syntax, notation, axiom, sorry.
-/
import Derived.Test.YtfdmmgiefhhnoaaGreatDoorRows
import GoSem.ClaimSeven
namespace Go.Proofs.YtfdmmgiefhhnoaaGreatDoor
namespace Rows

/-- THE TIED CARD OF 'tidewaterlaw05.StanzaWrite'. -/
def stanzaWriteCard : Claim7 := { stood := { row := stanzaWriteRow, standIns := [], harness := (true, "521f9da9de12ba03c5dc0ad8e8f1b31c4a2886258885dab6f5dbc8b9e3b0c648"), looks := false }, kinds := [], alts := [], laidByText := true, laidKinds := [.data, .data, .data, .data, .pinned], laidTests := true, laidLooks := .later }
def StanzaWriteCardSaid : Prop := Claim7.holds Tryz.pinned (.plain (OpenSpec.ofChange stanzaWriteSpec)) stanzaWriteCard

/-- THE SECOND FORM's CARD OF 'tidewaterlaw05.StanzaWrite'. -/
def stanzaWriteUptoCard : Claim7 := { stood := { row := stanzaWriteUptoRow, standIns := [], harness := (true, "521f9da9de12ba03c5dc0ad8e8f1b31c4a2886258885dab6f5dbc8b9e3b0c648"), looks := false }, kinds := [], alts := [], laidByText := true, laidKinds := [.data, .data, .data, .data, .pinned], laidTests := true, laidLooks := .later }
def StanzaWriteUptoCardSaid : Prop := Claim7.holds Tryz.pinned (.plain (OpenSpec.upto stanzaWriteSpec)) stanzaWriteUptoCard
end Rows
end Go.Proofs.YtfdmmgiefhhnoaaGreatDoor
