/-
  DERIVED. GIVEN WITH THE SEED: THE CARDS: each row of YtldcalmoboeeiaaDoorRows.lean that lists a variable, with what it lists TIED to the program's text (the seventh form; the later family's looks); each row that meets fmt, with fmt's text TOLD by the authors' own Lean function (tested against real Go, not proved from fmt's source: count such statements apart). THE CARD IS WHAT COUNTS. Prove the row's statement (the work); the ties are given (YtldcalmoboeeiaaDoorTie.lean); close each card by the builder's one call (the guide's Derived/Test/ToyasCard.lean, 'card_holds'). Laid BY PROGRAM, IN A SANDBOX (cutbox-door.mjs). By AI agents, Wed Nov 11 2026. No macro, syntax, notation, axiom, sorry.
-/
import Derived.Test.YtldcalmoboeeiaaDoorRows
import GoSem.ClaimSeven
namespace Go.Proofs.YtldcalmoboeeiaaDoor
namespace Rows

/-- THE TIED CARD OF 'tidewaterlaw12.RosterVersions'. -/
def rosterVersionsCard : Claim7 := { stood := { row := rosterVersionsRow, standIns := [], harness := (true, "b81ceae02bc622ac38cace064bc891e800784ddcf6fce3392f27c8e0f68b79f9"), looks := false }, kinds := [], alts := [], laidByText := true, laidKinds := [.data, .pinned], laidTests := true, laidLooks := .later }
def RosterVersionsCardSaid : Prop := Claim7.holds Tryd.pinned (.plain (OpenSpec.ofChange rosterVersionsSpec)) rosterVersionsCard

/-- THE TIED CARD OF 'tidewaterlaw12.RosterFull'. -/
def rosterFullCard : Claim7 := { stood := { row := rosterFullRow, standIns := [], harness := (true, "b81ceae02bc622ac38cace064bc891e800784ddcf6fce3392f27c8e0f68b79f9"), looks := false }, kinds := [], alts := [], laidByText := true, laidKinds := [.data, .pinned], laidTests := true, laidLooks := .later }
def RosterFullCardSaid : Prop := Claim7.holds Tryd.pinned (.plain (OpenSpec.ofChange rosterFullSpec)) rosterFullCard

/-- THE TIED CARD OF 'tidewaterlaw12.RosterRemoves'. -/
def rosterRemovesCard : Claim7 := { stood := { row := rosterRemovesRow, standIns := [], harness := (true, "b81ceae02bc622ac38cace064bc891e800784ddcf6fce3392f27c8e0f68b79f9"), looks := false }, kinds := [], alts := [], laidByText := true, laidKinds := [.data, .pinned], laidTests := true, laidLooks := .later }
def RosterRemovesCardSaid : Prop := Claim7.holds Tryd.pinned (.plain (OpenSpec.ofChange rosterRemovesSpec)) rosterRemovesCard

/-- THE TIED CARD OF 'tidewaterlaw12.RosterNames'. -/
def rosterNamesCard : Claim7 := { stood := { row := rosterNamesRow, standIns := [], harness := (true, "b81ceae02bc622ac38cace064bc891e800784ddcf6fce3392f27c8e0f68b79f9"), looks := false }, kinds := [], alts := [], laidByText := true, laidKinds := [.data, .pinned], laidTests := true, laidLooks := .later }
def RosterNamesCardSaid : Prop := Claim7.holds Tryd.pinned (.plain (OpenSpec.ofChange rosterNamesSpec)) rosterNamesCard

/-- THE TIED CARD OF 'tidewaterlaw12.RosterNil'. -/
def rosterNilCard : Claim7 := { stood := { row := rosterNilRow, standIns := [], harness := (true, "b81ceae02bc622ac38cace064bc891e800784ddcf6fce3392f27c8e0f68b79f9"), looks := false }, kinds := [], alts := [], laidByText := true, laidKinds := [.data, .pinned], laidTests := true, laidLooks := .later }
def RosterNilCardSaid : Prop := Claim7.holds Tryd.pinned (.plain (OpenSpec.ofChange rosterNilSpec)) rosterNilCard

/-- THE TIED CARD OF 'tidewaterlaw12.RosterFits'. -/
def rosterFitsCard : Claim7 := { stood := { row := rosterFitsRow, standIns := [], harness := (true, "b81ceae02bc622ac38cace064bc891e800784ddcf6fce3392f27c8e0f68b79f9"), looks := false }, kinds := [], alts := [], laidByText := true, laidKinds := [.data, .pinned], laidTests := true, laidLooks := .later }
def RosterFitsCardSaid : Prop := Claim7.holds Tryd.pinned (.plain (OpenSpec.ofChange rosterFitsSpec)) rosterFitsCard

/-- THE TIED CARD OF 'tidewaterlaw05.StanzaBack'. -/
def stanzaBackCard : Claim7 := { stood := { row := stanzaBackRow, standIns := [], harness := (true, "b81ceae02bc622ac38cace064bc891e800784ddcf6fce3392f27c8e0f68b79f9"), looks := false }, kinds := [], alts := [], laidByText := true, laidKinds := [.data, .data, .data, .data, .pinned], laidTests := true, laidLooks := .later }
def StanzaBackCardSaid : Prop := Claim7.holds Tryd.pinned (.plain (OpenSpec.ofChange stanzaBackSpec)) stanzaBackCard

/-- THE TIED CARD OF 'tidewaterlaw05.StanzaNames'. -/
def stanzaNamesCard : Claim7 := { stood := { row := stanzaNamesRow, standIns := [], harness := (true, "b81ceae02bc622ac38cace064bc891e800784ddcf6fce3392f27c8e0f68b79f9"), looks := false }, kinds := [], alts := [], laidByText := true, laidKinds := [.data, .data, .data, .data, .pinned], laidTests := true, laidLooks := .later }
def StanzaNamesCardSaid : Prop := Claim7.holds Tryd.pinned (.plain (OpenSpec.ofChange stanzaNamesSpec)) stanzaNamesCard

/-- THE TIED CARD OF 'tidewaterlaw05.StanzaOrder'. -/
def stanzaOrderCard : Claim7 := { stood := { row := stanzaOrderRow, standIns := [], harness := (true, "b81ceae02bc622ac38cace064bc891e800784ddcf6fce3392f27c8e0f68b79f9"), looks := false }, kinds := [], alts := [], laidByText := true, laidKinds := [.data, .data, .data, .data, .pinned], laidTests := true, laidLooks := .later }
def StanzaOrderCardSaid : Prop := Claim7.holds Tryd.pinned (.plain (OpenSpec.ofChange stanzaOrderSpec)) stanzaOrderCard

/-- THE SECOND FORM's CARD OF 'tidewaterlaw12.RosterVersions'. -/
def rosterVersionsUptoCard : Claim7 := { stood := { row := rosterVersionsUptoRow, standIns := [], harness := (true, "b81ceae02bc622ac38cace064bc891e800784ddcf6fce3392f27c8e0f68b79f9"), looks := false }, kinds := [], alts := [], laidByText := true, laidKinds := [.data, .pinned], laidTests := true, laidLooks := .later }
def RosterVersionsUptoCardSaid : Prop := Claim7.holds Tryd.pinned (.plain (OpenSpec.upto rosterVersionsSpec)) rosterVersionsUptoCard

/-- THE SECOND FORM's CARD OF 'tidewaterlaw12.RosterFull'. -/
def rosterFullUptoCard : Claim7 := { stood := { row := rosterFullUptoRow, standIns := [], harness := (true, "b81ceae02bc622ac38cace064bc891e800784ddcf6fce3392f27c8e0f68b79f9"), looks := false }, kinds := [], alts := [], laidByText := true, laidKinds := [.data, .pinned], laidTests := true, laidLooks := .later }
def RosterFullUptoCardSaid : Prop := Claim7.holds Tryd.pinned (.plain (OpenSpec.upto rosterFullSpec)) rosterFullUptoCard

/-- THE SECOND FORM's CARD OF 'tidewaterlaw12.RosterRemoves'. -/
def rosterRemovesUptoCard : Claim7 := { stood := { row := rosterRemovesUptoRow, standIns := [], harness := (true, "b81ceae02bc622ac38cace064bc891e800784ddcf6fce3392f27c8e0f68b79f9"), looks := false }, kinds := [], alts := [], laidByText := true, laidKinds := [.data, .pinned], laidTests := true, laidLooks := .later }
def RosterRemovesUptoCardSaid : Prop := Claim7.holds Tryd.pinned (.plain (OpenSpec.upto rosterRemovesSpec)) rosterRemovesUptoCard

/-- THE SECOND FORM's CARD OF 'tidewaterlaw12.RosterNames'. -/
def rosterNamesUptoCard : Claim7 := { stood := { row := rosterNamesUptoRow, standIns := [], harness := (true, "b81ceae02bc622ac38cace064bc891e800784ddcf6fce3392f27c8e0f68b79f9"), looks := false }, kinds := [], alts := [], laidByText := true, laidKinds := [.data, .pinned], laidTests := true, laidLooks := .later }
def RosterNamesUptoCardSaid : Prop := Claim7.holds Tryd.pinned (.plain (OpenSpec.upto rosterNamesSpec)) rosterNamesUptoCard

/-- THE SECOND FORM's CARD OF 'tidewaterlaw12.RosterNil'. -/
def rosterNilUptoCard : Claim7 := { stood := { row := rosterNilUptoRow, standIns := [], harness := (true, "b81ceae02bc622ac38cace064bc891e800784ddcf6fce3392f27c8e0f68b79f9"), looks := false }, kinds := [], alts := [], laidByText := true, laidKinds := [.data, .pinned], laidTests := true, laidLooks := .later }
def RosterNilUptoCardSaid : Prop := Claim7.holds Tryd.pinned (.plain (OpenSpec.upto rosterNilSpec)) rosterNilUptoCard

/-- THE SECOND FORM's CARD OF 'tidewaterlaw12.RosterFits'. -/
def rosterFitsUptoCard : Claim7 := { stood := { row := rosterFitsUptoRow, standIns := [], harness := (true, "b81ceae02bc622ac38cace064bc891e800784ddcf6fce3392f27c8e0f68b79f9"), looks := false }, kinds := [], alts := [], laidByText := true, laidKinds := [.data, .pinned], laidTests := true, laidLooks := .later }
def RosterFitsUptoCardSaid : Prop := Claim7.holds Tryd.pinned (.plain (OpenSpec.upto rosterFitsSpec)) rosterFitsUptoCard

/-- THE SECOND FORM's CARD OF 'tidewaterlaw05.StanzaBack'. -/
def stanzaBackUptoCard : Claim7 := { stood := { row := stanzaBackUptoRow, standIns := [], harness := (true, "b81ceae02bc622ac38cace064bc891e800784ddcf6fce3392f27c8e0f68b79f9"), looks := false }, kinds := [], alts := [], laidByText := true, laidKinds := [.data, .data, .data, .data, .pinned], laidTests := true, laidLooks := .later }
def StanzaBackUptoCardSaid : Prop := Claim7.holds Tryd.pinned (.plain (OpenSpec.upto stanzaBackSpec)) stanzaBackUptoCard

/-- THE SECOND FORM's CARD OF 'tidewaterlaw05.StanzaNames'. -/
def stanzaNamesUptoCard : Claim7 := { stood := { row := stanzaNamesUptoRow, standIns := [], harness := (true, "b81ceae02bc622ac38cace064bc891e800784ddcf6fce3392f27c8e0f68b79f9"), looks := false }, kinds := [], alts := [], laidByText := true, laidKinds := [.data, .data, .data, .data, .pinned], laidTests := true, laidLooks := .later }
def StanzaNamesUptoCardSaid : Prop := Claim7.holds Tryd.pinned (.plain (OpenSpec.upto stanzaNamesSpec)) stanzaNamesUptoCard

/-- THE SECOND FORM's CARD OF 'tidewaterlaw05.StanzaOrder'. -/
def stanzaOrderUptoCard : Claim7 := { stood := { row := stanzaOrderUptoRow, standIns := [], harness := (true, "b81ceae02bc622ac38cace064bc891e800784ddcf6fce3392f27c8e0f68b79f9"), looks := false }, kinds := [], alts := [], laidByText := true, laidKinds := [.data, .data, .data, .data, .pinned], laidTests := true, laidLooks := .later }
def StanzaOrderUptoCardSaid : Prop := Claim7.holds Tryd.pinned (.plain (OpenSpec.upto stanzaOrderSpec)) stanzaOrderUptoCard
end Rows
end Go.Proofs.YtldcalmoboeeiaaDoor
