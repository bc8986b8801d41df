/-
  DERIVED. GIVEN WITH THE SEED: THE CARDS: each row of YtgidbnonalbeeaaDoorRows.lean that lists a variable, with what it lists TIED to the program's text (the seventh form; the later family's looks); each row that meets fmt, with fmt's text TOLD by the authors' own Lean function (tested against real Go, not proved from fmt's source: count such statements apart). THE CARD IS WHAT COUNTS. Prove the row's statement (the work); the ties are given (YtgidbnonalbeeaaDoorTie.lean); close each card by the builder's one call (the guide's Derived/Test/ToyasCard.lean, 'card_holds'). Laid BY PROGRAM, IN A SANDBOX (cutbox-door.mjs). By AI agents, Wed Nov 11 2026. No macro, syntax, notation, axiom, sorry.
-/
import Derived.Test.YtgidbnonalbeeaaDoorRows
import GoSem.ClaimSeven
namespace Go.Proofs.YtgidbnonalbeeaaDoor
namespace Rows

/-- THE TIED CARD OF 'tidewaterlaw16.BindPicks'. -/
def bindPicksCard : Claim7 := { stood := { row := bindPicksRow, standIns := [], harness := (true, "976dfa41ab876cd741c1fd822e864753c8f1618b24873b877890d43824a6dedf"), looks := false }, kinds := [], alts := [], laidByText := true, laidKinds := [.data, .data, .data, .data, .pinned], laidTests := true, laidLooks := .later }
def BindPicksCardSaid : Prop := Claim7.holds Tryd.pinned (.plain (OpenSpec.ofChange bindPicksSpec)) bindPicksCard

/-- THE TIED CARD OF 'tidewaterlaw16.BindAddresses'. -/
def bindAddressesCard : Claim7 := { stood := { row := bindAddressesRow, standIns := [], harness := (true, "976dfa41ab876cd741c1fd822e864753c8f1618b24873b877890d43824a6dedf"), looks := false }, kinds := [], alts := [], laidByText := true, laidKinds := [.data, .data, .data, .data, .pinned], laidTests := true, laidLooks := .later }
def BindAddressesCardSaid : Prop := Claim7.holds Tryd.pinned (.plain (OpenSpec.ofChange bindAddressesSpec)) bindAddressesCard

/-- THE TIED CARD OF 'tidewaterlaw16.BindFree'. -/
def bindFreeCard : Claim7 := { stood := { row := bindFreeRow, standIns := [], harness := (true, "976dfa41ab876cd741c1fd822e864753c8f1618b24873b877890d43824a6dedf"), looks := false }, kinds := [], alts := [], laidByText := true, laidKinds := [.data, .data, .data, .data, .pinned], laidTests := true, laidLooks := .later }
def BindFreeCardSaid : Prop := Claim7.holds Tryd.pinned (.plain (OpenSpec.ofChange bindFreeSpec)) bindFreeCard

/-- THE TIED CARD OF 'tidewaterlaw16.BindBack'. -/
def bindBackCard : Claim7 := { stood := { row := bindBackRow, standIns := [], harness := (true, "976dfa41ab876cd741c1fd822e864753c8f1618b24873b877890d43824a6dedf"), looks := false }, kinds := [], alts := [], laidByText := true, laidKinds := [.data, .data, .data, .data, .pinned], laidTests := true, laidLooks := .later }
def BindBackCardSaid : Prop := Claim7.holds Tryd.pinned (.plain (OpenSpec.ofChange bindBackSpec)) bindBackCard

/-- THE TIED CARD OF 'tidewaterlaw16.BindBest'. -/
def bindBestCard : Claim7 := { stood := { row := bindBestRow, standIns := [], harness := (true, "976dfa41ab876cd741c1fd822e864753c8f1618b24873b877890d43824a6dedf"), looks := false }, kinds := [], alts := [], laidByText := true, laidKinds := [.data, .data, .data, .data, .pinned], laidTests := true, laidLooks := .later }
def BindBestCardSaid : Prop := Claim7.holds Tryd.pinned (.plain (OpenSpec.ofChange bindBestSpec)) bindBestCard

/-- THE SECOND FORM's CARD OF 'tidewaterlaw16.BindPicks'. -/
def bindPicksUptoCard : Claim7 := { stood := { row := bindPicksUptoRow, standIns := [], harness := (true, "976dfa41ab876cd741c1fd822e864753c8f1618b24873b877890d43824a6dedf"), looks := false }, kinds := [], alts := [], laidByText := true, laidKinds := [.data, .data, .data, .data, .pinned], laidTests := true, laidLooks := .later }
def BindPicksUptoCardSaid : Prop := Claim7.holds Tryd.pinned (.plain (OpenSpec.upto bindPicksSpec)) bindPicksUptoCard

/-- THE SECOND FORM's CARD OF 'tidewaterlaw16.BindAddresses'. -/
def bindAddressesUptoCard : Claim7 := { stood := { row := bindAddressesUptoRow, standIns := [], harness := (true, "976dfa41ab876cd741c1fd822e864753c8f1618b24873b877890d43824a6dedf"), looks := false }, kinds := [], alts := [], laidByText := true, laidKinds := [.data, .data, .data, .data, .pinned], laidTests := true, laidLooks := .later }
def BindAddressesUptoCardSaid : Prop := Claim7.holds Tryd.pinned (.plain (OpenSpec.upto bindAddressesSpec)) bindAddressesUptoCard

/-- THE SECOND FORM's CARD OF 'tidewaterlaw16.BindFree'. -/
def bindFreeUptoCard : Claim7 := { stood := { row := bindFreeUptoRow, standIns := [], harness := (true, "976dfa41ab876cd741c1fd822e864753c8f1618b24873b877890d43824a6dedf"), looks := false }, kinds := [], alts := [], laidByText := true, laidKinds := [.data, .data, .data, .data, .pinned], laidTests := true, laidLooks := .later }
def BindFreeUptoCardSaid : Prop := Claim7.holds Tryd.pinned (.plain (OpenSpec.upto bindFreeSpec)) bindFreeUptoCard

/-- THE SECOND FORM's CARD OF 'tidewaterlaw16.BindBack'. -/
def bindBackUptoCard : Claim7 := { stood := { row := bindBackUptoRow, standIns := [], harness := (true, "976dfa41ab876cd741c1fd822e864753c8f1618b24873b877890d43824a6dedf"), looks := false }, kinds := [], alts := [], laidByText := true, laidKinds := [.data, .data, .data, .data, .pinned], laidTests := true, laidLooks := .later }
def BindBackUptoCardSaid : Prop := Claim7.holds Tryd.pinned (.plain (OpenSpec.upto bindBackSpec)) bindBackUptoCard

/-- THE SECOND FORM's CARD OF 'tidewaterlaw16.BindBest'. -/
def bindBestUptoCard : Claim7 := { stood := { row := bindBestUptoRow, standIns := [], harness := (true, "976dfa41ab876cd741c1fd822e864753c8f1618b24873b877890d43824a6dedf"), looks := false }, kinds := [], alts := [], laidByText := true, laidKinds := [.data, .data, .data, .data, .pinned], laidTests := true, laidLooks := .later }
def BindBestUptoCardSaid : Prop := Claim7.holds Tryd.pinned (.plain (OpenSpec.upto bindBestSpec)) bindBestUptoCard
end Rows
end Go.Proofs.YtgidbnonalbeeaaDoor
