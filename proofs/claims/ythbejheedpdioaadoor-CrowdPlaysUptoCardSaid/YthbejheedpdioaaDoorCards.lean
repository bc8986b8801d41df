/-
  DERIVED. GIVEN WITH THE SEED: THE CARDS: each row of YthbejheedpdioaaDoorRows.lean that lists a variable, with what it lists TIED to the program's text (the seventh form; the later family's looks); each row that meets fmt, with fmt's text TOLD by the authors' own Lean function (tested against real Go, not proved from fmt's source: count such statements apart). THE CARD IS WHAT COUNTS. Prove the row's statement (the work); the ties are given (YthbejheedpdioaaDoorTie.lean); close each card by the builder's one call (the guide's Derived/Test/ToyasCard.lean, 'card_holds'). Laid BY PROGRAM, IN A SANDBOX (cutbox-door.mjs). By AI agents, Wed Nov 11 2026. No macro, syntax, notation, axiom, sorry.
-/
import Derived.Test.YthbejheedpdioaaDoorRows
import GoSem.ClaimSeven
namespace Go.Proofs.YthbejheedpdioaaDoor
namespace Rows

/-- THE TIED CARD OF 'tidewaterlaw23.CrowdLast'. -/
def crowdLastCard : Claim7 := { stood := { row := crowdLastRow, standIns := [], harness := (true, "fa7af05f874cc32c9413c6189465701ea399698c0ee15af52e698b7b34556d26"), looks := false }, kinds := [], alts := [], laidByText := true, laidKinds := [.data, .pinned], laidTests := true, laidLooks := .later }
def CrowdLastCardSaid : Prop := Claim7.holds Tryd.pinned (.plain (OpenSpec.ofChange crowdLastSpec)) crowdLastCard

/-- THE TIED CARD OF 'tidewaterlaw23.CrowdCounts'. -/
def crowdCountsCard : Claim7 := { stood := { row := crowdCountsRow, standIns := [], harness := (true, "fa7af05f874cc32c9413c6189465701ea399698c0ee15af52e698b7b34556d26"), looks := false }, kinds := [], alts := [], laidByText := true, laidKinds := [.data, .pinned], laidTests := true, laidLooks := .later }
def CrowdCountsCardSaid : Prop := Claim7.holds Tryd.pinned (.plain (OpenSpec.ofChange crowdCountsSpec)) crowdCountsCard

/-- THE TIED CARD OF 'tidewaterlaw23.CrowdLeaves'. -/
def crowdLeavesCard : Claim7 := { stood := { row := crowdLeavesRow, standIns := [], harness := (true, "fa7af05f874cc32c9413c6189465701ea399698c0ee15af52e698b7b34556d26"), looks := false }, kinds := [], alts := [], laidByText := true, laidKinds := [.data, .pinned], laidTests := true, laidLooks := .later }
def CrowdLeavesCardSaid : Prop := Claim7.holds Tryd.pinned (.plain (OpenSpec.ofChange crowdLeavesSpec)) crowdLeavesCard

/-- THE TIED CARD OF 'tidewaterlaw23.CrowdPlays'. -/
def crowdPlaysCard : Claim7 := { stood := { row := crowdPlaysRow, standIns := [], harness := (true, "fa7af05f874cc32c9413c6189465701ea399698c0ee15af52e698b7b34556d26"), looks := false }, kinds := [], alts := [], laidByText := true, laidKinds := [.data, .pinned], laidTests := true, laidLooks := .later }
def CrowdPlaysCardSaid : Prop := Claim7.holds Tryd.pinned (.plain (OpenSpec.ofChange crowdPlaysSpec)) crowdPlaysCard

/-- THE TIED CARD OF 'tidewaterlaw23.CrowdNil'. -/
def crowdNilCard : Claim7 := { stood := { row := crowdNilRow, standIns := [], harness := (true, "fa7af05f874cc32c9413c6189465701ea399698c0ee15af52e698b7b34556d26"), looks := false }, kinds := [], alts := [], laidByText := true, laidKinds := [.data, .pinned], laidTests := true, laidLooks := .later }
def CrowdNilCardSaid : Prop := Claim7.holds Tryd.pinned (.plain (OpenSpec.ofChange crowdNilSpec)) crowdNilCard

/-- THE SECOND FORM's CARD OF 'tidewaterlaw23.CrowdLast'. -/
def crowdLastUptoCard : Claim7 := { stood := { row := crowdLastUptoRow, standIns := [], harness := (true, "fa7af05f874cc32c9413c6189465701ea399698c0ee15af52e698b7b34556d26"), looks := false }, kinds := [], alts := [], laidByText := true, laidKinds := [.data, .pinned], laidTests := true, laidLooks := .later }
def CrowdLastUptoCardSaid : Prop := Claim7.holds Tryd.pinned (.plain (OpenSpec.upto crowdLastSpec)) crowdLastUptoCard

/-- THE SECOND FORM's CARD OF 'tidewaterlaw23.CrowdCounts'. -/
def crowdCountsUptoCard : Claim7 := { stood := { row := crowdCountsUptoRow, standIns := [], harness := (true, "fa7af05f874cc32c9413c6189465701ea399698c0ee15af52e698b7b34556d26"), looks := false }, kinds := [], alts := [], laidByText := true, laidKinds := [.data, .pinned], laidTests := true, laidLooks := .later }
def CrowdCountsUptoCardSaid : Prop := Claim7.holds Tryd.pinned (.plain (OpenSpec.upto crowdCountsSpec)) crowdCountsUptoCard

/-- THE SECOND FORM's CARD OF 'tidewaterlaw23.CrowdLeaves'. -/
def crowdLeavesUptoCard : Claim7 := { stood := { row := crowdLeavesUptoRow, standIns := [], harness := (true, "fa7af05f874cc32c9413c6189465701ea399698c0ee15af52e698b7b34556d26"), looks := false }, kinds := [], alts := [], laidByText := true, laidKinds := [.data, .pinned], laidTests := true, laidLooks := .later }
def CrowdLeavesUptoCardSaid : Prop := Claim7.holds Tryd.pinned (.plain (OpenSpec.upto crowdLeavesSpec)) crowdLeavesUptoCard

/-- THE SECOND FORM's CARD OF 'tidewaterlaw23.CrowdPlays'. -/
def crowdPlaysUptoCard : Claim7 := { stood := { row := crowdPlaysUptoRow, standIns := [], harness := (true, "fa7af05f874cc32c9413c6189465701ea399698c0ee15af52e698b7b34556d26"), looks := false }, kinds := [], alts := [], laidByText := true, laidKinds := [.data, .pinned], laidTests := true, laidLooks := .later }
def CrowdPlaysUptoCardSaid : Prop := Claim7.holds Tryd.pinned (.plain (OpenSpec.upto crowdPlaysSpec)) crowdPlaysUptoCard

/-- THE SECOND FORM's CARD OF 'tidewaterlaw23.CrowdNil'. -/
def crowdNilUptoCard : Claim7 := { stood := { row := crowdNilUptoRow, standIns := [], harness := (true, "fa7af05f874cc32c9413c6189465701ea399698c0ee15af52e698b7b34556d26"), looks := false }, kinds := [], alts := [], laidByText := true, laidKinds := [.data, .pinned], laidTests := true, laidLooks := .later }
def CrowdNilUptoCardSaid : Prop := Claim7.holds Tryd.pinned (.plain (OpenSpec.upto crowdNilSpec)) crowdNilUptoCard
end Rows
end Go.Proofs.YthbejheedpdioaaDoor
