/-
  DERIVED. GIVEN WITH THE SEED: THE CARDS: each row of YtoobhfbamikanaaDoorRows.lean that lists a variable, with what it lists TIED to the program's text (the seventh form; the later family's looks); each row that meets fmt, with fmt's text TOLD by the authors' own Lean function (tested against real Go, not proved from fmt's source: count such statements apart). THE CARD IS WHAT COUNTS. Prove the row's statement (the work); the ties are given (YtoobhfbamikanaaDoorTie.lean); close each card by the builder's one call (the guide's Derived/Test/ToyasCard.lean, 'card_holds'). Laid BY PROGRAM, IN A SANDBOX (cutbox-door.mjs). By AI agents, Wed Nov 11 2026. No macro, syntax, notation, axiom, sorry.
-/
import Derived.Test.YtoobhfbamikanaaDoorRows
import GoSem.ClaimSeven
namespace Go.Proofs.YtoobhfbamikanaaDoor
namespace Rows

/-- THE TIED CARD OF 'tidewaterlaw05.StanzaBack'. -/
def stanzaBackCard : Claim7 := { stood := { row := stanzaBackRow, standIns := [], harness := (true, "4b00d212d10b0bfd85e88057f0b807e3fcfb9f8001c8cf5d50ee2905287b18b7"), looks := false }, kinds := [], alts := [], laidByText := true, laidKinds := [.data, .data, .data, .data, .pinned], laidTests := true, laidLooks := .later }
def StanzaBackCardSaid : Prop := Claim7.holds Tryd.pinned (.plain (OpenSpec.ofChange stanzaBackSpec)) stanzaBackCard

/-- THE TIED CARD OF 'tidewaterlaw05.StanzaNames'. -/
def stanzaNamesCard : Claim7 := { stood := { row := stanzaNamesRow, standIns := [], harness := (true, "4b00d212d10b0bfd85e88057f0b807e3fcfb9f8001c8cf5d50ee2905287b18b7"), looks := false }, kinds := [], alts := [], laidByText := true, laidKinds := [.data, .data, .data, .data, .pinned], laidTests := true, laidLooks := .later }
def StanzaNamesCardSaid : Prop := Claim7.holds Tryd.pinned (.plain (OpenSpec.ofChange stanzaNamesSpec)) stanzaNamesCard

/-- THE TIED CARD OF 'tidewaterlaw05.StanzaOrder'. -/
def stanzaOrderCard : Claim7 := { stood := { row := stanzaOrderRow, standIns := [], harness := (true, "4b00d212d10b0bfd85e88057f0b807e3fcfb9f8001c8cf5d50ee2905287b18b7"), looks := false }, kinds := [], alts := [], laidByText := true, laidKinds := [.data, .data, .data, .data, .pinned], laidTests := true, laidLooks := .later }
def StanzaOrderCardSaid : Prop := Claim7.holds Tryd.pinned (.plain (OpenSpec.ofChange stanzaOrderSpec)) stanzaOrderCard

/-- THE SECOND FORM's CARD OF 'tidewaterlaw05.StanzaBack'. -/
def stanzaBackUptoCard : Claim7 := { stood := { row := stanzaBackUptoRow, standIns := [], harness := (true, "4b00d212d10b0bfd85e88057f0b807e3fcfb9f8001c8cf5d50ee2905287b18b7"), looks := false }, kinds := [], alts := [], laidByText := true, laidKinds := [.data, .data, .data, .data, .pinned], laidTests := true, laidLooks := .later }
def StanzaBackUptoCardSaid : Prop := Claim7.holds Tryd.pinned (.plain (OpenSpec.upto stanzaBackSpec)) stanzaBackUptoCard

/-- THE SECOND FORM's CARD OF 'tidewaterlaw05.StanzaNames'. -/
def stanzaNamesUptoCard : Claim7 := { stood := { row := stanzaNamesUptoRow, standIns := [], harness := (true, "4b00d212d10b0bfd85e88057f0b807e3fcfb9f8001c8cf5d50ee2905287b18b7"), looks := false }, kinds := [], alts := [], laidByText := true, laidKinds := [.data, .data, .data, .data, .pinned], laidTests := true, laidLooks := .later }
def StanzaNamesUptoCardSaid : Prop := Claim7.holds Tryd.pinned (.plain (OpenSpec.upto stanzaNamesSpec)) stanzaNamesUptoCard

/-- THE SECOND FORM's CARD OF 'tidewaterlaw05.StanzaOrder'. -/
def stanzaOrderUptoCard : Claim7 := { stood := { row := stanzaOrderUptoRow, standIns := [], harness := (true, "4b00d212d10b0bfd85e88057f0b807e3fcfb9f8001c8cf5d50ee2905287b18b7"), looks := false }, kinds := [], alts := [], laidByText := true, laidKinds := [.data, .data, .data, .data, .pinned], laidTests := true, laidLooks := .later }
def StanzaOrderUptoCardSaid : Prop := Claim7.holds Tryd.pinned (.plain (OpenSpec.upto stanzaOrderSpec)) stanzaOrderUptoCard
end Rows
end Go.Proofs.YtoobhfbamikanaaDoor
