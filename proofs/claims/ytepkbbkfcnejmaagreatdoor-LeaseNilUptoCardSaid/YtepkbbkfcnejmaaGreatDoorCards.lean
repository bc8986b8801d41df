/-
  DERIVED. GIVEN WITH THE SEED: THE CARDS: each row of YtepkbbkfcnejmaaGreatDoorRows.lean that lists a variable, with what it lists TIED to the program's text (the seventh form; the later family's looks); each row that meets fmt, with fmt's text TOLD by the authors' own Lean function (tested against real Go, not proved from fmt's source: count such statements apart). THE CARD IS WHAT COUNTS. Prove the row's statement (the work); the ties are given (YtepkbbkfcnejmaaGreatDoorTie.lean); close each card by the builder's one call (the guide's Derived/Test/ToyasCard.lean, 'card_holds'). Laid BY PROGRAM, IN A SANDBOX (cutbox-door.mjs). By AI agents, Wed Nov 11 2026. No macro, syntax, notation, axiom, sorry.
-/
import Derived.Test.YtepkbbkfcnejmaaGreatDoorRows
import GoSem.ClaimSeven
namespace Go.Proofs.YtepkbbkfcnejmaaGreatDoor
namespace Rows

/-- THE TIED CARD OF 'tidewaterlaw15.LeaseBounds'. -/
def leaseBoundsCard : Claim7 := { stood := { row := leaseBoundsRow, standIns := [], harness := (true, "15cd293dd724adc3867dadef7da7313e5a269cb7de28698a1c87163ff3ef8e17"), looks := false }, kinds := [], alts := [], laidByText := true, laidKinds := [.data, .pinned], laidTests := true, laidLooks := .later }
def LeaseBoundsCardSaid : Prop := Claim7.holds Tryz.pinned (.plain (OpenSpec.ofChange leaseBoundsSpec)) leaseBoundsCard

/-- THE TIED CARD OF 'tidewaterlaw15.LeaseNil'. -/
def leaseNilCard : Claim7 := { stood := { row := leaseNilRow, standIns := [], harness := (true, "15cd293dd724adc3867dadef7da7313e5a269cb7de28698a1c87163ff3ef8e17"), looks := false }, kinds := [], alts := [], laidByText := true, laidKinds := [.data, .pinned], laidTests := true, laidLooks := .later }
def LeaseNilCardSaid : Prop := Claim7.holds Tryz.pinned (.plain (OpenSpec.ofChange leaseNilSpec)) leaseNilCard

/-- THE SECOND FORM's CARD OF 'tidewaterlaw15.LeaseBounds'. -/
def leaseBoundsUptoCard : Claim7 := { stood := { row := leaseBoundsUptoRow, standIns := [], harness := (true, "15cd293dd724adc3867dadef7da7313e5a269cb7de28698a1c87163ff3ef8e17"), looks := false }, kinds := [], alts := [], laidByText := true, laidKinds := [.data, .pinned], laidTests := true, laidLooks := .later }
def LeaseBoundsUptoCardSaid : Prop := Claim7.holds Tryz.pinned (.plain (OpenSpec.upto leaseBoundsSpec)) leaseBoundsUptoCard

/-- THE SECOND FORM's CARD OF 'tidewaterlaw15.LeaseNil'. -/
def leaseNilUptoCard : Claim7 := { stood := { row := leaseNilUptoRow, standIns := [], harness := (true, "15cd293dd724adc3867dadef7da7313e5a269cb7de28698a1c87163ff3ef8e17"), looks := false }, kinds := [], alts := [], laidByText := true, laidKinds := [.data, .pinned], laidTests := true, laidLooks := .later }
def LeaseNilUptoCardSaid : Prop := Claim7.holds Tryz.pinned (.plain (OpenSpec.upto leaseNilSpec)) leaseNilUptoCard
end Rows
end Go.Proofs.YtepkbbkfcnejmaaGreatDoor
