/-
  NARROWER THAN 'FOR EVERY INPUT', by the rows' own cells (each row's printed sentence says how): TagsRead: laid · TagsPieces: laid · TagsStuck: laid · TagsNil: laid · TagsJoin: laid · TagsLong: laid.
  DERIVED. THE GIVEN ROWS OF THIS SEAT. 6 by the template 'for every input the law returns true; each argument reads behind the call as it read before'; 0 by the template 'total and deterministic' (their statements: YtfdecpfcphghlaaDoorTotals.lean).
  GIVEN WITH THE SEED: the statements are not yours to turn. If you find one false, say at which input.
  Laid BY PROGRAM, IN A SANDBOX (cutbox-rows.mjs): the forced cells as the released guide's own fill.sh prints them over the translation 6b024452c7f0b5eb… (all of the seat's roots in one cut). By AI agents, Wed Nov 11 2026. No macro, syntax, notation, axiom, sorry.
-/
import Derived.Test.YtfdecpfcphghlaaDoorChecked
import GoSem.PinnedTables
import GoSem.Claim
import GoSem.ClaimJoined
import GoSem.ClaimMapViews
import Derived.JoinedTies
import Derived.KernelRfl
namespace Go.Proofs.YtfdecpfcphghlaaDoor
/- THE CELL 'sum', in the pinned program and in every row, IS THE sha256 OF THE DUMP (.gsa) THAT YtfdecpfcphghlaaDoorProg.lean LOADS. Nothing in Lean hashes anything: it is a label: what it is worth is what the hold of that sum in a sandbox is worth. -/
noncomputable def Tryd.pinned : Pinned := { name := "ytfdecpfcphghlaadoor", sum := "6b024452c7f0b5eb0b819186b4165c9f281eb35b1bc0bce463cc4131825be13a", checked := Tryd.checked }
namespace Rows
def none {H : Type} : Left H := { results := [], args := [] }

/- WHAT THE LISTED PACKAGE-LEVEL VARIABLES READ AS WHEN THE CALL BEGINS. Each datum BY PROGRAM (the guide's laid-datum.mjs) off the statement by which the dump's own 'gosem.cut.vars' lays the variable. In a bare row this is a premise. The card (YtfdecpfcphghlaaDoorCards.lean) ties it to the program's text. -/
def laid_unicode_utf8_acceptRanges {H : Type} : DataW H := .agg [.agg [.lit (.int .u8 128), .lit (.int .u8 191)], .agg [.lit (.int .u8 160), .lit (.int .u8 191)], .agg [.lit (.int .u8 128), .lit (.int .u8 159)], .agg [.lit (.int .u8 144), .lit (.int .u8 191)], .agg [.lit (.int .u8 128), .lit (.int .u8 143)], .agg [.lit (.int .u8 0), .lit (.int .u8 0)], .agg [.lit (.int .u8 0), .lit (.int .u8 0)], .agg [.lit (.int .u8 0), .lit (.int .u8 0)], .agg [.lit (.int .u8 0), .lit (.int .u8 0)], .agg [.lit (.int .u8 0), .lit (.int .u8 0)], .agg [.lit (.int .u8 0), .lit (.int .u8 0)], .agg [.lit (.int .u8 0), .lit (.int .u8 0)], .agg [.lit (.int .u8 0), .lit (.int .u8 0)], .agg [.lit (.int .u8 0), .lit (.int .u8 0)], .agg [.lit (.int .u8 0), .lit (.int .u8 0)], .agg [.lit (.int .u8 0), .lit (.int .u8 0)]]
/-- One of Go's own tables, pinned by name: the form's constant. -/
def laid_unicode_utf8_first : DataW Unit := Go.Pinned.utf8First

/-- 'tidewaterlaw02.TagsRead': WHATEVER THE INPUT: true; the input reads as it did. -/
def tagsReadSpec : ChangeSpec := { name := "tagsRead", fn := fun _ => fun
  | [d] => { results := [.lit (.bool true)], args := [d] }
  | _ => none }
def tagsReadRow : OpenClaim := { program := "ytfdecpfcphghlaadoor", sum := "6b024452c7f0b5eb0b819186b4165c9f281eb35b1bc0bce463cc4131825be13a", func := "tidewater/tidewaterlaw02.TagsRead", spec := "tagsRead", inPlace := ["internal/bytealg.IndexByteString", "internal/bytealg.IndexString", "internal/abi.NoEscape"], unfollowed := true, recurses := true, named := ["unicode/utf8.first", "unicode/utf8.acceptRanges", "internal/bytealg.MaxLen"], apart := false, laid := [("unicode/utf8.acceptRanges", laid_unicode_utf8_acceptRanges), ("unicode/utf8.first", laid_unicode_utf8_first)] }
def TagsReadSaid : Prop := tagsReadRow.holds Tryd.pinned (OpenSpec.ofChange tagsReadSpec)

/-- ITS FALSE NEIGHBOUR: 'it returns false'. Refute it at one input. -/
def tagsReadWrong : ChangeSpec := { name := "tagsRead", fn := fun _ => fun
  | [d] => { results := [.lit (.bool false)], args := [d] }
  | _ => none }
def TagsReadWrongFalsely : Prop := tagsReadRow.holds Tryd.pinned (OpenSpec.ofChange tagsReadWrong)

/-- 'tidewaterlaw02.TagsPieces': WHATEVER THE INPUT: true; the input reads as it did. -/
def tagsPiecesSpec : ChangeSpec := { name := "tagsPieces", fn := fun _ => fun
  | [d1, d2] => { results := [.lit (.bool true)], args := [d1, d2] }
  | _ => none }
def tagsPiecesRow : OpenClaim := { program := "ytfdecpfcphghlaadoor", sum := "6b024452c7f0b5eb0b819186b4165c9f281eb35b1bc0bce463cc4131825be13a", func := "tidewater/tidewaterlaw02.TagsPieces", spec := "tagsPieces", inPlace := ["internal/bytealg.IndexByteString", "internal/bytealg.IndexString", "internal/abi.NoEscape"], unfollowed := true, recurses := true, named := ["unicode/utf8.first", "unicode/utf8.acceptRanges", "internal/bytealg.MaxLen"], apart := false, laid := [("unicode/utf8.acceptRanges", laid_unicode_utf8_acceptRanges), ("unicode/utf8.first", laid_unicode_utf8_first)] }
def TagsPiecesSaid : Prop := tagsPiecesRow.holds Tryd.pinned (OpenSpec.ofChange tagsPiecesSpec)

/-- ITS FALSE NEIGHBOUR: 'it returns false'. Refute it at one input. -/
def tagsPiecesWrong : ChangeSpec := { name := "tagsPieces", fn := fun _ => fun
  | [d1, d2] => { results := [.lit (.bool false)], args := [d1, d2] }
  | _ => none }
def TagsPiecesWrongFalsely : Prop := tagsPiecesRow.holds Tryd.pinned (OpenSpec.ofChange tagsPiecesWrong)

/-- 'tidewaterlaw02.TagsStuck': WHATEVER THE INPUT: true; the input reads as it did. -/
def tagsStuckSpec : ChangeSpec := { name := "tagsStuck", fn := fun _ => fun
  | [d1, d2] => { results := [.lit (.bool true)], args := [d1, d2] }
  | _ => none }
def tagsStuckRow : OpenClaim := { program := "ytfdecpfcphghlaadoor", sum := "6b024452c7f0b5eb0b819186b4165c9f281eb35b1bc0bce463cc4131825be13a", func := "tidewater/tidewaterlaw02.TagsStuck", spec := "tagsStuck", inPlace := ["internal/bytealg.IndexByteString", "internal/bytealg.IndexString", "internal/abi.NoEscape"], unfollowed := true, recurses := true, named := ["unicode/utf8.first", "unicode/utf8.acceptRanges", "internal/bytealg.MaxLen"], apart := false, laid := [("unicode/utf8.acceptRanges", laid_unicode_utf8_acceptRanges), ("unicode/utf8.first", laid_unicode_utf8_first)] }
def TagsStuckSaid : Prop := tagsStuckRow.holds Tryd.pinned (OpenSpec.ofChange tagsStuckSpec)

/-- ITS FALSE NEIGHBOUR: 'it returns false'. Refute it at one input. -/
def tagsStuckWrong : ChangeSpec := { name := "tagsStuck", fn := fun _ => fun
  | [d1, d2] => { results := [.lit (.bool false)], args := [d1, d2] }
  | _ => none }
def TagsStuckWrongFalsely : Prop := tagsStuckRow.holds Tryd.pinned (OpenSpec.ofChange tagsStuckWrong)

/-- 'tidewaterlaw02.TagsNil': WHATEVER THE INPUT: true; the input reads as it did. -/
def tagsNilSpec : ChangeSpec := { name := "tagsNil", fn := fun _ => fun
  | [d] => { results := [.lit (.bool true)], args := [d] }
  | _ => none }
def tagsNilRow : OpenClaim := { program := "ytfdecpfcphghlaadoor", sum := "6b024452c7f0b5eb0b819186b4165c9f281eb35b1bc0bce463cc4131825be13a", func := "tidewater/tidewaterlaw02.TagsNil", spec := "tagsNil", inPlace := ["internal/bytealg.IndexByteString", "internal/bytealg.IndexString", "internal/abi.NoEscape"], unfollowed := true, recurses := true, named := ["unicode/utf8.first", "unicode/utf8.acceptRanges", "internal/bytealg.MaxLen"], apart := false, laid := [("unicode/utf8.acceptRanges", laid_unicode_utf8_acceptRanges), ("unicode/utf8.first", laid_unicode_utf8_first)] }
def TagsNilSaid : Prop := tagsNilRow.holds Tryd.pinned (OpenSpec.ofChange tagsNilSpec)

/-- ITS FALSE NEIGHBOUR: 'it returns false'. Refute it at one input. -/
def tagsNilWrong : ChangeSpec := { name := "tagsNil", fn := fun _ => fun
  | [d] => { results := [.lit (.bool false)], args := [d] }
  | _ => none }
def TagsNilWrongFalsely : Prop := tagsNilRow.holds Tryd.pinned (OpenSpec.ofChange tagsNilWrong)

/-- 'tidewaterlaw02.TagsJoin': WHATEVER THE INPUT: true; the input reads as it did. -/
def tagsJoinSpec : ChangeSpec := { name := "tagsJoin", fn := fun _ => fun
  | [d1, d2] => { results := [.lit (.bool true)], args := [d1, d2] }
  | _ => none }
def tagsJoinRow : OpenClaim := { program := "ytfdecpfcphghlaadoor", sum := "6b024452c7f0b5eb0b819186b4165c9f281eb35b1bc0bce463cc4131825be13a", func := "tidewater/tidewaterlaw02.TagsJoin", spec := "tagsJoin", inPlace := ["internal/bytealg.IndexByteString", "internal/bytealg.IndexString", "internal/abi.NoEscape"], unfollowed := true, recurses := true, named := ["unicode/utf8.first", "unicode/utf8.acceptRanges", "internal/bytealg.MaxLen"], apart := false, laid := [("unicode/utf8.acceptRanges", laid_unicode_utf8_acceptRanges), ("unicode/utf8.first", laid_unicode_utf8_first)] }
def TagsJoinSaid : Prop := tagsJoinRow.holds Tryd.pinned (OpenSpec.ofChange tagsJoinSpec)

/-- ITS FALSE NEIGHBOUR: 'it returns false'. Refute it at one input. -/
def tagsJoinWrong : ChangeSpec := { name := "tagsJoin", fn := fun _ => fun
  | [d1, d2] => { results := [.lit (.bool false)], args := [d1, d2] }
  | _ => none }
def TagsJoinWrongFalsely : Prop := tagsJoinRow.holds Tryd.pinned (OpenSpec.ofChange tagsJoinWrong)

/-- 'tidewaterlaw02.TagsLong': WHATEVER THE INPUT: true; the input reads as it did. -/
def tagsLongSpec : ChangeSpec := { name := "tagsLong", fn := fun _ => fun
  | [d1, d2] => { results := [.lit (.bool true)], args := [d1, d2] }
  | _ => none }
def tagsLongRow : OpenClaim := { program := "ytfdecpfcphghlaadoor", sum := "6b024452c7f0b5eb0b819186b4165c9f281eb35b1bc0bce463cc4131825be13a", func := "tidewater/tidewaterlaw02.TagsLong", spec := "tagsLong", inPlace := ["internal/bytealg.IndexByteString", "internal/bytealg.IndexString", "internal/abi.NoEscape"], unfollowed := true, recurses := true, named := ["unicode/utf8.first", "unicode/utf8.acceptRanges", "internal/bytealg.MaxLen"], apart := false, laid := [("unicode/utf8.acceptRanges", laid_unicode_utf8_acceptRanges), ("unicode/utf8.first", laid_unicode_utf8_first)] }
def TagsLongSaid : Prop := tagsLongRow.holds Tryd.pinned (OpenSpec.ofChange tagsLongSpec)

/-- ITS FALSE NEIGHBOUR: 'it returns false'. Refute it at one input. -/
def tagsLongWrong : ChangeSpec := { name := "tagsLong", fn := fun _ => fun
  | [d1, d2] => { results := [.lit (.bool false)], args := [d1, d2] }
  | _ => none }
def TagsLongWrongFalsely : Prop := tagsLongRow.holds Tryd.pinned (OpenSpec.ofChange tagsLongWrong)

/- THE SECOND FORM. 'bulk': how many values and letters a reading holds, each counted each time it is reached (what is shared counts as often as it is met; a slice's spare places count too). A statement '..UptoSaid' is the law's where the arguments, and the package variables that the reading takes, are together of bulk at most 1048576: NARROWER than '..Said'. Prove '..Said' where nothing that the law and all that it calls make is longer than what came in: it says more and counts as full. Else prove '..UptoSaid'. A law counts once. -/
mutual
def uptoBulk {H : Type} : DataW H → Nat
  | .lit (.string bytes) => bytes.length + 1
  | .lit _ => 1
  | .nil => 1
  | .ptr d => uptoBulk d + 1
  | .slice elems spare => uptoBulkAll elems + uptoBulkAll spare + 1
  | .agg parts => uptoBulkAll parts + 1
  | .iface _ d => uptoBulk d + 1
  | .map entries => uptoBulkEntries entries + 1
  | .held _ => 1
def uptoBulkAll {H : Type} : List (DataW H) → Nat
  | [] => 0
  | d :: r => uptoBulk d + uptoBulkAll r
def uptoBulkEntries {H : Type} : List (Lit × DataW H) → Nat
  | [] => 0
  | x :: r => uptoBulkEntry x + uptoBulkEntries r
def uptoBulkEntry {H : Type} : Lit × DataW H → Nat
  | (.string bytes, d) => bytes.length + uptoBulk d + 1
  | (_, d) => uptoBulk d + 1
 end
def uptoSmall : (H : Type) → List (DataW H) → Bool := fun _ ds => decide (uptoBulkAll ds ≤ 1048576)
def OpenSpec.upto (s : _root_.Go.ChangeSpec) : _root_.Go.OpenSpec := { _root_.Go.OpenSpec.ofChange s with cond := some uptoSmall }

/-- 'tidewaterlaw02.TagsRead', WHERE WHAT IT READS IS OF BULK AT MOST 1048576: true; the input reads as it did. -/
def tagsReadUptoRow : OpenClaim := { program := "ytfdecpfcphghlaadoor", sum := "6b024452c7f0b5eb0b819186b4165c9f281eb35b1bc0bce463cc4131825be13a", func := "tidewater/tidewaterlaw02.TagsRead", spec := "tagsRead", inPlace := ["internal/bytealg.IndexByteString", "internal/bytealg.IndexString", "internal/abi.NoEscape"], unfollowed := true, recurses := true, named := ["unicode/utf8.first", "unicode/utf8.acceptRanges", "internal/bytealg.MaxLen"], apart := false, laid := [("unicode/utf8.acceptRanges", laid_unicode_utf8_acceptRanges), ("unicode/utf8.first", laid_unicode_utf8_first)], narrowed := true }
def TagsReadUptoSaid : Prop := tagsReadUptoRow.holds Tryd.pinned (OpenSpec.upto tagsReadSpec)

/-- 'tidewaterlaw02.TagsPieces', WHERE WHAT IT READS IS OF BULK AT MOST 1048576: true; the input reads as it did. -/
def tagsPiecesUptoRow : OpenClaim := { program := "ytfdecpfcphghlaadoor", sum := "6b024452c7f0b5eb0b819186b4165c9f281eb35b1bc0bce463cc4131825be13a", func := "tidewater/tidewaterlaw02.TagsPieces", spec := "tagsPieces", inPlace := ["internal/bytealg.IndexByteString", "internal/bytealg.IndexString", "internal/abi.NoEscape"], unfollowed := true, recurses := true, named := ["unicode/utf8.first", "unicode/utf8.acceptRanges", "internal/bytealg.MaxLen"], apart := false, laid := [("unicode/utf8.acceptRanges", laid_unicode_utf8_acceptRanges), ("unicode/utf8.first", laid_unicode_utf8_first)], narrowed := true }
def TagsPiecesUptoSaid : Prop := tagsPiecesUptoRow.holds Tryd.pinned (OpenSpec.upto tagsPiecesSpec)

/-- 'tidewaterlaw02.TagsStuck', WHERE WHAT IT READS IS OF BULK AT MOST 1048576: true; the input reads as it did. -/
def tagsStuckUptoRow : OpenClaim := { program := "ytfdecpfcphghlaadoor", sum := "6b024452c7f0b5eb0b819186b4165c9f281eb35b1bc0bce463cc4131825be13a", func := "tidewater/tidewaterlaw02.TagsStuck", spec := "tagsStuck", inPlace := ["internal/bytealg.IndexByteString", "internal/bytealg.IndexString", "internal/abi.NoEscape"], unfollowed := true, recurses := true, named := ["unicode/utf8.first", "unicode/utf8.acceptRanges", "internal/bytealg.MaxLen"], apart := false, laid := [("unicode/utf8.acceptRanges", laid_unicode_utf8_acceptRanges), ("unicode/utf8.first", laid_unicode_utf8_first)], narrowed := true }
def TagsStuckUptoSaid : Prop := tagsStuckUptoRow.holds Tryd.pinned (OpenSpec.upto tagsStuckSpec)

/-- 'tidewaterlaw02.TagsNil', WHERE WHAT IT READS IS OF BULK AT MOST 1048576: true; the input reads as it did. -/
def tagsNilUptoRow : OpenClaim := { program := "ytfdecpfcphghlaadoor", sum := "6b024452c7f0b5eb0b819186b4165c9f281eb35b1bc0bce463cc4131825be13a", func := "tidewater/tidewaterlaw02.TagsNil", spec := "tagsNil", inPlace := ["internal/bytealg.IndexByteString", "internal/bytealg.IndexString", "internal/abi.NoEscape"], unfollowed := true, recurses := true, named := ["unicode/utf8.first", "unicode/utf8.acceptRanges", "internal/bytealg.MaxLen"], apart := false, laid := [("unicode/utf8.acceptRanges", laid_unicode_utf8_acceptRanges), ("unicode/utf8.first", laid_unicode_utf8_first)], narrowed := true }
def TagsNilUptoSaid : Prop := tagsNilUptoRow.holds Tryd.pinned (OpenSpec.upto tagsNilSpec)

/-- 'tidewaterlaw02.TagsJoin', WHERE WHAT IT READS IS OF BULK AT MOST 1048576: true; the input reads as it did. -/
def tagsJoinUptoRow : OpenClaim := { program := "ytfdecpfcphghlaadoor", sum := "6b024452c7f0b5eb0b819186b4165c9f281eb35b1bc0bce463cc4131825be13a", func := "tidewater/tidewaterlaw02.TagsJoin", spec := "tagsJoin", inPlace := ["internal/bytealg.IndexByteString", "internal/bytealg.IndexString", "internal/abi.NoEscape"], unfollowed := true, recurses := true, named := ["unicode/utf8.first", "unicode/utf8.acceptRanges", "internal/bytealg.MaxLen"], apart := false, laid := [("unicode/utf8.acceptRanges", laid_unicode_utf8_acceptRanges), ("unicode/utf8.first", laid_unicode_utf8_first)], narrowed := true }
def TagsJoinUptoSaid : Prop := tagsJoinUptoRow.holds Tryd.pinned (OpenSpec.upto tagsJoinSpec)

/-- 'tidewaterlaw02.TagsLong', WHERE WHAT IT READS IS OF BULK AT MOST 1048576: true; the input reads as it did. -/
def tagsLongUptoRow : OpenClaim := { program := "ytfdecpfcphghlaadoor", sum := "6b024452c7f0b5eb0b819186b4165c9f281eb35b1bc0bce463cc4131825be13a", func := "tidewater/tidewaterlaw02.TagsLong", spec := "tagsLong", inPlace := ["internal/bytealg.IndexByteString", "internal/bytealg.IndexString", "internal/abi.NoEscape"], unfollowed := true, recurses := true, named := ["unicode/utf8.first", "unicode/utf8.acceptRanges", "internal/bytealg.MaxLen"], apart := false, laid := [("unicode/utf8.acceptRanges", laid_unicode_utf8_acceptRanges), ("unicode/utf8.first", laid_unicode_utf8_first)], narrowed := true }
def TagsLongUptoSaid : Prop := tagsLongUptoRow.holds Tryd.pinned (OpenSpec.upto tagsLongSpec)

end Rows
end Go.Proofs.YtfdecpfcphghlaaDoor
