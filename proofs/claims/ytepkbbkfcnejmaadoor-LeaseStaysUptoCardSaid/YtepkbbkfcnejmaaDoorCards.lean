/-
  DERIVED. GIVEN WITH THE SEED: THE CARDS: each row of YtepkbbkfcnejmaaDoorRows.lean that lists a variable, with what it lists TIED to the program's text (the seventh form; the later family's looks); each row that meets fmt, with fmt's text TOLD by the authors' own Lean function (tested against real Go, not proved from fmt's source: count such statements apart). THE CARD IS WHAT COUNTS. Prove the row's statement (the work); the ties are given (YtepkbbkfcnejmaaDoorTie.lean); close each card by the builder's one call (the guide's Derived/Test/ToyasCard.lean, 'card_holds'). Laid BY PROGRAM, IN A SANDBOX (cutbox-door.mjs). By AI agents, Wed Nov 11 2026. No macro, syntax, notation, axiom, sorry.
-/
import Derived.Test.YtepkbbkfcnejmaaDoorRows
import GoSem.ClaimSeven
namespace Go.Proofs.YtepkbbkfcnejmaaDoor
namespace Rows

/-- THE TIED CARD OF 'tidewaterlaw15.LeaseEvicts'. -/
def leaseEvictsCard : Claim7 := { stood := { row := leaseEvictsRow, standIns := [], harness := (true, "e319e35a73b907732f3b1f2f1c777f3acae32af9d9ec4a67869fa123182d3737"), looks := false }, kinds := [], alts := [], laidByText := true, laidKinds := [.data, .pinned], laidTests := true, laidLooks := .later }
def LeaseEvictsCardSaid : Prop := Claim7.holds Tryd.pinned (.plain (OpenSpec.ofChange leaseEvictsSpec)) leaseEvictsCard

/-- THE TIED CARD OF 'tidewaterlaw15.LeaseDeadline'. -/
def leaseDeadlineCard : Claim7 := { stood := { row := leaseDeadlineRow, standIns := [], harness := (true, "e319e35a73b907732f3b1f2f1c777f3acae32af9d9ec4a67869fa123182d3737"), looks := false }, kinds := [], alts := [], laidByText := true, laidKinds := [.data, .pinned], laidTests := true, laidLooks := .later }
def LeaseDeadlineCardSaid : Prop := Claim7.holds Tryd.pinned (.plain (OpenSpec.ofChange leaseDeadlineSpec)) leaseDeadlineCard

/-- THE TIED CARD OF 'tidewaterlaw15.LeaseStays'. -/
def leaseStaysCard : Claim7 := { stood := { row := leaseStaysRow, standIns := [], harness := (true, "e319e35a73b907732f3b1f2f1c777f3acae32af9d9ec4a67869fa123182d3737"), looks := false }, kinds := [], alts := [], laidByText := true, laidKinds := [.data, .pinned], laidTests := true, laidLooks := .later }
def LeaseStaysCardSaid : Prop := Claim7.holds Tryd.pinned (.plain (OpenSpec.ofChange leaseStaysSpec)) leaseStaysCard

/-- THE TIED CARD OF 'tidewaterlaw15.LeaseBounds'. -/
def leaseBoundsCard : Claim7 := { stood := { row := leaseBoundsRow, standIns := [], harness := (true, "e319e35a73b907732f3b1f2f1c777f3acae32af9d9ec4a67869fa123182d3737"), looks := false }, kinds := [], alts := [], laidByText := true, laidKinds := [.data, .pinned], laidTests := true, laidLooks := .later }
def LeaseBoundsCardSaid : Prop := Claim7.holds Tryd.pinned (.plain (OpenSpec.ofChange leaseBoundsSpec)) leaseBoundsCard

/-- THE TIED CARD OF 'tidewaterlaw15.LeaseNil'. -/
def leaseNilCard : Claim7 := { stood := { row := leaseNilRow, standIns := [], harness := (true, "e319e35a73b907732f3b1f2f1c777f3acae32af9d9ec4a67869fa123182d3737"), looks := false }, kinds := [], alts := [], laidByText := true, laidKinds := [.data, .pinned], laidTests := true, laidLooks := .later }
def LeaseNilCardSaid : Prop := Claim7.holds Tryd.pinned (.plain (OpenSpec.ofChange leaseNilSpec)) leaseNilCard

/-- THE SECOND FORM's CARD OF 'tidewaterlaw15.LeaseEvicts'. -/
def leaseEvictsUptoCard : Claim7 := { stood := { row := leaseEvictsUptoRow, standIns := [], harness := (true, "e319e35a73b907732f3b1f2f1c777f3acae32af9d9ec4a67869fa123182d3737"), looks := false }, kinds := [], alts := [], laidByText := true, laidKinds := [.data, .pinned], laidTests := true, laidLooks := .later }
def LeaseEvictsUptoCardSaid : Prop := Claim7.holds Tryd.pinned (.plain (OpenSpec.upto leaseEvictsSpec)) leaseEvictsUptoCard

/-- THE SECOND FORM's CARD OF 'tidewaterlaw15.LeaseDeadline'. -/
def leaseDeadlineUptoCard : Claim7 := { stood := { row := leaseDeadlineUptoRow, standIns := [], harness := (true, "e319e35a73b907732f3b1f2f1c777f3acae32af9d9ec4a67869fa123182d3737"), looks := false }, kinds := [], alts := [], laidByText := true, laidKinds := [.data, .pinned], laidTests := true, laidLooks := .later }
def LeaseDeadlineUptoCardSaid : Prop := Claim7.holds Tryd.pinned (.plain (OpenSpec.upto leaseDeadlineSpec)) leaseDeadlineUptoCard

/-- THE SECOND FORM's CARD OF 'tidewaterlaw15.LeaseStays'. -/
def leaseStaysUptoCard : Claim7 := { stood := { row := leaseStaysUptoRow, standIns := [], harness := (true, "e319e35a73b907732f3b1f2f1c777f3acae32af9d9ec4a67869fa123182d3737"), looks := false }, kinds := [], alts := [], laidByText := true, laidKinds := [.data, .pinned], laidTests := true, laidLooks := .later }
def LeaseStaysUptoCardSaid : Prop := Claim7.holds Tryd.pinned (.plain (OpenSpec.upto leaseStaysSpec)) leaseStaysUptoCard

/-- THE SECOND FORM's CARD OF 'tidewaterlaw15.LeaseBounds'. -/
def leaseBoundsUptoCard : Claim7 := { stood := { row := leaseBoundsUptoRow, standIns := [], harness := (true, "e319e35a73b907732f3b1f2f1c777f3acae32af9d9ec4a67869fa123182d3737"), looks := false }, kinds := [], alts := [], laidByText := true, laidKinds := [.data, .pinned], laidTests := true, laidLooks := .later }
def LeaseBoundsUptoCardSaid : Prop := Claim7.holds Tryd.pinned (.plain (OpenSpec.upto leaseBoundsSpec)) leaseBoundsUptoCard

/-- THE SECOND FORM's CARD OF 'tidewaterlaw15.LeaseNil'. -/
def leaseNilUptoCard : Claim7 := { stood := { row := leaseNilUptoRow, standIns := [], harness := (true, "e319e35a73b907732f3b1f2f1c777f3acae32af9d9ec4a67869fa123182d3737"), looks := false }, kinds := [], alts := [], laidByText := true, laidKinds := [.data, .pinned], laidTests := true, laidLooks := .later }
def LeaseNilUptoCardSaid : Prop := Claim7.holds Tryd.pinned (.plain (OpenSpec.upto leaseNilSpec)) leaseNilUptoCard
end Rows
end Go.Proofs.YtepkbbkfcnejmaaDoor
