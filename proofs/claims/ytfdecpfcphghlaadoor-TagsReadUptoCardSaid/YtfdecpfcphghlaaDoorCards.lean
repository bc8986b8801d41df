/-
  DERIVED. GIVEN WITH THE SEED: THE CARDS: each row of YtfdecpfcphghlaaDoorRows.lean that lists a variable, with what it lists TIED to the program's text (the seventh form; the later family's looks); each row that meets fmt, with fmt's text TOLD by the authors' own Lean function (tested against real Go, not proved from fmt's source: count such statements apart). THE CARD IS WHAT COUNTS. Prove the row's statement (the work); the ties are given (YtfdecpfcphghlaaDoorTie.lean); close each card by the builder's one call (the guide's Derived/Test/ToyasCard.lean, 'card_holds'). Laid BY PROGRAM, IN A SANDBOX (cutbox-door.mjs). By AI agents, Wed Nov 11 2026. No macro, syntax, notation, axiom, sorry.
-/
import Derived.Test.YtfdecpfcphghlaaDoorRows
import GoSem.ClaimSeven
namespace Go.Proofs.YtfdecpfcphghlaaDoor
namespace Rows

/-- THE TIED CARD OF 'tidewaterlaw02.TagsRead'. -/
def tagsReadCard : Claim7 := { stood := { row := tagsReadRow, standIns := [], harness := (true, "5d1435c6da4c6c24d4ef4d61dc53f6fafe83253b1a4e2780cd06d3ad2301db86"), looks := false }, kinds := [], alts := [], laidByText := true, laidKinds := [.data, .pinned], laidTests := true, laidLooks := .later }
def TagsReadCardSaid : Prop := Claim7.holds Tryd.pinned (.plain (OpenSpec.ofChange tagsReadSpec)) tagsReadCard

/-- THE TIED CARD OF 'tidewaterlaw02.TagsPieces'. -/
def tagsPiecesCard : Claim7 := { stood := { row := tagsPiecesRow, standIns := [], harness := (true, "5d1435c6da4c6c24d4ef4d61dc53f6fafe83253b1a4e2780cd06d3ad2301db86"), looks := false }, kinds := [], alts := [], laidByText := true, laidKinds := [.data, .pinned], laidTests := true, laidLooks := .later }
def TagsPiecesCardSaid : Prop := Claim7.holds Tryd.pinned (.plain (OpenSpec.ofChange tagsPiecesSpec)) tagsPiecesCard

/-- THE TIED CARD OF 'tidewaterlaw02.TagsStuck'. -/
def tagsStuckCard : Claim7 := { stood := { row := tagsStuckRow, standIns := [], harness := (true, "5d1435c6da4c6c24d4ef4d61dc53f6fafe83253b1a4e2780cd06d3ad2301db86"), looks := false }, kinds := [], alts := [], laidByText := true, laidKinds := [.data, .pinned], laidTests := true, laidLooks := .later }
def TagsStuckCardSaid : Prop := Claim7.holds Tryd.pinned (.plain (OpenSpec.ofChange tagsStuckSpec)) tagsStuckCard

/-- THE TIED CARD OF 'tidewaterlaw02.TagsNil'. -/
def tagsNilCard : Claim7 := { stood := { row := tagsNilRow, standIns := [], harness := (true, "5d1435c6da4c6c24d4ef4d61dc53f6fafe83253b1a4e2780cd06d3ad2301db86"), looks := false }, kinds := [], alts := [], laidByText := true, laidKinds := [.data, .pinned], laidTests := true, laidLooks := .later }
def TagsNilCardSaid : Prop := Claim7.holds Tryd.pinned (.plain (OpenSpec.ofChange tagsNilSpec)) tagsNilCard

/-- THE TIED CARD OF 'tidewaterlaw02.TagsJoin'. -/
def tagsJoinCard : Claim7 := { stood := { row := tagsJoinRow, standIns := [], harness := (true, "5d1435c6da4c6c24d4ef4d61dc53f6fafe83253b1a4e2780cd06d3ad2301db86"), looks := false }, kinds := [], alts := [], laidByText := true, laidKinds := [.data, .pinned], laidTests := true, laidLooks := .later }
def TagsJoinCardSaid : Prop := Claim7.holds Tryd.pinned (.plain (OpenSpec.ofChange tagsJoinSpec)) tagsJoinCard

/-- THE TIED CARD OF 'tidewaterlaw02.TagsLong'. -/
def tagsLongCard : Claim7 := { stood := { row := tagsLongRow, standIns := [], harness := (true, "5d1435c6da4c6c24d4ef4d61dc53f6fafe83253b1a4e2780cd06d3ad2301db86"), looks := false }, kinds := [], alts := [], laidByText := true, laidKinds := [.data, .pinned], laidTests := true, laidLooks := .later }
def TagsLongCardSaid : Prop := Claim7.holds Tryd.pinned (.plain (OpenSpec.ofChange tagsLongSpec)) tagsLongCard

/-- THE SECOND FORM's CARD OF 'tidewaterlaw02.TagsRead'. -/
def tagsReadUptoCard : Claim7 := { stood := { row := tagsReadUptoRow, standIns := [], harness := (true, "5d1435c6da4c6c24d4ef4d61dc53f6fafe83253b1a4e2780cd06d3ad2301db86"), looks := false }, kinds := [], alts := [], laidByText := true, laidKinds := [.data, .pinned], laidTests := true, laidLooks := .later }
def TagsReadUptoCardSaid : Prop := Claim7.holds Tryd.pinned (.plain (OpenSpec.upto tagsReadSpec)) tagsReadUptoCard

/-- THE SECOND FORM's CARD OF 'tidewaterlaw02.TagsPieces'. -/
def tagsPiecesUptoCard : Claim7 := { stood := { row := tagsPiecesUptoRow, standIns := [], harness := (true, "5d1435c6da4c6c24d4ef4d61dc53f6fafe83253b1a4e2780cd06d3ad2301db86"), looks := false }, kinds := [], alts := [], laidByText := true, laidKinds := [.data, .pinned], laidTests := true, laidLooks := .later }
def TagsPiecesUptoCardSaid : Prop := Claim7.holds Tryd.pinned (.plain (OpenSpec.upto tagsPiecesSpec)) tagsPiecesUptoCard

/-- THE SECOND FORM's CARD OF 'tidewaterlaw02.TagsStuck'. -/
def tagsStuckUptoCard : Claim7 := { stood := { row := tagsStuckUptoRow, standIns := [], harness := (true, "5d1435c6da4c6c24d4ef4d61dc53f6fafe83253b1a4e2780cd06d3ad2301db86"), looks := false }, kinds := [], alts := [], laidByText := true, laidKinds := [.data, .pinned], laidTests := true, laidLooks := .later }
def TagsStuckUptoCardSaid : Prop := Claim7.holds Tryd.pinned (.plain (OpenSpec.upto tagsStuckSpec)) tagsStuckUptoCard

/-- THE SECOND FORM's CARD OF 'tidewaterlaw02.TagsNil'. -/
def tagsNilUptoCard : Claim7 := { stood := { row := tagsNilUptoRow, standIns := [], harness := (true, "5d1435c6da4c6c24d4ef4d61dc53f6fafe83253b1a4e2780cd06d3ad2301db86"), looks := false }, kinds := [], alts := [], laidByText := true, laidKinds := [.data, .pinned], laidTests := true, laidLooks := .later }
def TagsNilUptoCardSaid : Prop := Claim7.holds Tryd.pinned (.plain (OpenSpec.upto tagsNilSpec)) tagsNilUptoCard

/-- THE SECOND FORM's CARD OF 'tidewaterlaw02.TagsJoin'. -/
def tagsJoinUptoCard : Claim7 := { stood := { row := tagsJoinUptoRow, standIns := [], harness := (true, "5d1435c6da4c6c24d4ef4d61dc53f6fafe83253b1a4e2780cd06d3ad2301db86"), looks := false }, kinds := [], alts := [], laidByText := true, laidKinds := [.data, .pinned], laidTests := true, laidLooks := .later }
def TagsJoinUptoCardSaid : Prop := Claim7.holds Tryd.pinned (.plain (OpenSpec.upto tagsJoinSpec)) tagsJoinUptoCard

/-- THE SECOND FORM's CARD OF 'tidewaterlaw02.TagsLong'. -/
def tagsLongUptoCard : Claim7 := { stood := { row := tagsLongUptoRow, standIns := [], harness := (true, "5d1435c6da4c6c24d4ef4d61dc53f6fafe83253b1a4e2780cd06d3ad2301db86"), looks := false }, kinds := [], alts := [], laidByText := true, laidKinds := [.data, .pinned], laidTests := true, laidLooks := .later }
def TagsLongUptoCardSaid : Prop := Claim7.holds Tryd.pinned (.plain (OpenSpec.upto tagsLongSpec)) tagsLongUptoCard
end Rows
end Go.Proofs.YtfdecpfcphghlaaDoor
