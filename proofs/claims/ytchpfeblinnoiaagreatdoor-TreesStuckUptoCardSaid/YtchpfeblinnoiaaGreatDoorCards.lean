/-
  DERIVED. GIVEN WITH THE SEED: THE CARDS: each row of YtchpfeblinnoiaaGreatDoorRows.lean that lists a variable, with what it lists TIED to the program's text (the seventh form; the later family's looks); each row that meets fmt, with fmt's text TOLD by the authors' own Lean function (tested against real Go, not proved from fmt's source: count such statements apart). THE CARD IS WHAT COUNTS. Prove the row's statement (the work); the ties are given (YtchpfeblinnoiaaGreatDoorTie.lean); close each card by the builder's one call (the guide's Derived/Test/ToyasCard.lean, 'card_holds'). Laid BY PROGRAM, IN A SANDBOX (cutbox-door.mjs). By AI agents, Wed Nov 11 2026. No macro, syntax, notation, axiom, sorry.
-/
import Derived.Test.YtchpfeblinnoiaaGreatDoorRows
import GoSem.ClaimSeven
namespace Go.Proofs.YtchpfeblinnoiaaGreatDoor
namespace Rows

/-- THE TIED CARD OF 'tidewaterlaw03.TreesBuild'. -/
def treesBuildCard : Claim7 := { stood := { row := treesBuildRow, standIns := [], harness := (true, "8f40f456a4db5b5438de53ca5f1d7a6dc1dfcf3efdb674744107bc935542b361"), looks := true }, kinds := [], alts := [], laidByText := true, laidKinds := [.data, .pinned], laidTests := true, laidLooks := .later }
def TreesBuildCardSaid : Prop := Claim7.holds Tryz.pinned (.plain (OpenSpec.ofChange treesBuildSpec)) treesBuildCard

/-- THE TIED CARD OF 'tidewaterlaw03.TreesStuck'. -/
def treesStuckCard : Claim7 := { stood := { row := treesStuckRow, standIns := [], harness := (true, "8f40f456a4db5b5438de53ca5f1d7a6dc1dfcf3efdb674744107bc935542b361"), looks := true }, kinds := [], alts := [], laidByText := true, laidKinds := [.data, .pinned], laidTests := true, laidLooks := .later }
def TreesStuckCardSaid : Prop := Claim7.holds Tryz.pinned (.plain (OpenSpec.ofChange treesStuckSpec)) treesStuckCard

/-- THE TIED CARD OF 'tidewaterlaw03.TreesDeep'. -/
def treesDeepCard : Claim7 := { stood := { row := treesDeepRow, standIns := [], harness := (true, "8f40f456a4db5b5438de53ca5f1d7a6dc1dfcf3efdb674744107bc935542b361"), looks := true }, kinds := [], alts := [], laidByText := true, laidKinds := [.data, .pinned], laidTests := true, laidLooks := .later }
def TreesDeepCardSaid : Prop := Claim7.holds Tryz.pinned (.plain (OpenSpec.ofChange treesDeepSpec)) treesDeepCard

/-- THE TIED CARD OF 'tidewaterlaw03.TreesSame'. -/
def treesSameCard : Claim7 := { stood := { row := treesSameRow, standIns := [], harness := (true, "8f40f456a4db5b5438de53ca5f1d7a6dc1dfcf3efdb674744107bc935542b361"), looks := true }, kinds := [], alts := [], laidByText := true, laidKinds := [.data, .pinned], laidTests := true, laidLooks := .later }
def TreesSameCardSaid : Prop := Claim7.holds Tryz.pinned (.plain (OpenSpec.ofChange treesSameSpec)) treesSameCard

/-- THE TIED CARD OF 'tidewaterlaw03.TreesWrite'. -/
def treesWriteCard : Claim7 := { stood := { row := treesWriteRow, standIns := [], harness := (true, "8f40f456a4db5b5438de53ca5f1d7a6dc1dfcf3efdb674744107bc935542b361"), looks := true }, kinds := [], alts := [], laidByText := true, laidKinds := [.data, .pinned], laidTests := true, laidLooks := .later }
def TreesWriteCardSaid : Prop := Claim7.holds Tryz.pinned (.plain (OpenSpec.ofChange treesWriteSpec)) treesWriteCard

/-- THE SECOND FORM's CARD OF 'tidewaterlaw03.TreesBuild'. -/
def treesBuildUptoCard : Claim7 := { stood := { row := treesBuildUptoRow, standIns := [], harness := (true, "8f40f456a4db5b5438de53ca5f1d7a6dc1dfcf3efdb674744107bc935542b361"), looks := true }, kinds := [], alts := [], laidByText := true, laidKinds := [.data, .pinned], laidTests := true, laidLooks := .later }
def TreesBuildUptoCardSaid : Prop := Claim7.holds Tryz.pinned (.plain (OpenSpec.upto treesBuildSpec)) treesBuildUptoCard

/-- THE SECOND FORM's CARD OF 'tidewaterlaw03.TreesStuck'. -/
def treesStuckUptoCard : Claim7 := { stood := { row := treesStuckUptoRow, standIns := [], harness := (true, "8f40f456a4db5b5438de53ca5f1d7a6dc1dfcf3efdb674744107bc935542b361"), looks := true }, kinds := [], alts := [], laidByText := true, laidKinds := [.data, .pinned], laidTests := true, laidLooks := .later }
def TreesStuckUptoCardSaid : Prop := Claim7.holds Tryz.pinned (.plain (OpenSpec.upto treesStuckSpec)) treesStuckUptoCard

/-- THE SECOND FORM's CARD OF 'tidewaterlaw03.TreesDeep'. -/
def treesDeepUptoCard : Claim7 := { stood := { row := treesDeepUptoRow, standIns := [], harness := (true, "8f40f456a4db5b5438de53ca5f1d7a6dc1dfcf3efdb674744107bc935542b361"), looks := true }, kinds := [], alts := [], laidByText := true, laidKinds := [.data, .pinned], laidTests := true, laidLooks := .later }
def TreesDeepUptoCardSaid : Prop := Claim7.holds Tryz.pinned (.plain (OpenSpec.upto treesDeepSpec)) treesDeepUptoCard

/-- THE SECOND FORM's CARD OF 'tidewaterlaw03.TreesSame'. -/
def treesSameUptoCard : Claim7 := { stood := { row := treesSameUptoRow, standIns := [], harness := (true, "8f40f456a4db5b5438de53ca5f1d7a6dc1dfcf3efdb674744107bc935542b361"), looks := true }, kinds := [], alts := [], laidByText := true, laidKinds := [.data, .pinned], laidTests := true, laidLooks := .later }
def TreesSameUptoCardSaid : Prop := Claim7.holds Tryz.pinned (.plain (OpenSpec.upto treesSameSpec)) treesSameUptoCard

/-- THE SECOND FORM's CARD OF 'tidewaterlaw03.TreesWrite'. -/
def treesWriteUptoCard : Claim7 := { stood := { row := treesWriteUptoRow, standIns := [], harness := (true, "8f40f456a4db5b5438de53ca5f1d7a6dc1dfcf3efdb674744107bc935542b361"), looks := true }, kinds := [], alts := [], laidByText := true, laidKinds := [.data, .pinned], laidTests := true, laidLooks := .later }
def TreesWriteUptoCardSaid : Prop := Claim7.holds Tryz.pinned (.plain (OpenSpec.upto treesWriteSpec)) treesWriteUptoCard
end Rows
end Go.Proofs.YtchpfeblinnoiaaGreatDoor
