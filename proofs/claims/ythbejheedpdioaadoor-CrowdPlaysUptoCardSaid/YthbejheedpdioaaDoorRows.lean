/-
  NARROWER THAN 'FOR EVERY INPUT', by the rows' own cells (each row's printed sentence says how): CrowdLast: laid · CrowdCounts: laid · CrowdLeaves: laid · CrowdPlays: laid · CrowdNil: laid.
  DERIVED. THE GIVEN ROWS OF THIS SEAT. 5 by the template 'for every input the law returns true; each argument reads behind the call as it read before'; 0 by the template 'total and deterministic' (their statements: YthbejheedpdioaaDoorTotals.lean).
  GIVEN WITH THE SEED: the statements are not yours to turn. If you find one false, say at which input.
  Laid BY PROGRAM, IN A SANDBOX (cutbox-rows.mjs): the forced cells as the released guide's own fill.sh prints them over the translation d2179c0859fed3ff… (all of the seat's roots in one cut). By AI agents, Wed Nov 11 2026. No macro, syntax, notation, axiom, sorry.
-/
import Derived.Test.YthbejheedpdioaaDoorChecked
import GoSem.PinnedTables
import GoSem.Claim
import GoSem.ClaimJoined
import GoSem.ClaimMapViews
import Derived.JoinedTies
import Derived.KernelRfl
namespace Go.Proofs.YthbejheedpdioaaDoor
/- THE CELL 'sum', in the pinned program and in every row, IS THE sha256 OF THE DUMP (.gsa) THAT YthbejheedpdioaaDoorProg.lean LOADS. Nothing in Lean hashes anything: it is a label: what it is worth is what the hold of that sum in a sandbox is worth. -/
noncomputable def Tryd.pinned : Pinned := { name := "ythbejheedpdioaadoor", sum := "d2179c0859fed3ffb52bbcd43d9ff5bdbfeb2d2b281fd29832f4f97129673100", checked := Tryd.checked }
namespace Rows
def none {H : Type} : Left H := { results := [], args := [] }

/- WHAT THE LISTED PACKAGE-LEVEL VARIABLES READ AS WHEN THE CALL BEGINS. Each datum BY PROGRAM (the guide's laid-datum.mjs) off the statement by which the dump's own 'gosem.cut.vars' lays the variable. In a bare row this is a premise. The card (YthbejheedpdioaaDoorCards.lean) ties it to the program's text. -/
def laid_unicode_utf8_acceptRanges {H : Type} : DataW H := .agg [.agg [.lit (.int .u8 128), .lit (.int .u8 191)], .agg [.lit (.int .u8 160), .lit (.int .u8 191)], .agg [.lit (.int .u8 128), .lit (.int .u8 159)], .agg [.lit (.int .u8 144), .lit (.int .u8 191)], .agg [.lit (.int .u8 128), .lit (.int .u8 143)], .agg [.lit (.int .u8 0), .lit (.int .u8 0)], .agg [.lit (.int .u8 0), .lit (.int .u8 0)], .agg [.lit (.int .u8 0), .lit (.int .u8 0)], .agg [.lit (.int .u8 0), .lit (.int .u8 0)], .agg [.lit (.int .u8 0), .lit (.int .u8 0)], .agg [.lit (.int .u8 0), .lit (.int .u8 0)], .agg [.lit (.int .u8 0), .lit (.int .u8 0)], .agg [.lit (.int .u8 0), .lit (.int .u8 0)], .agg [.lit (.int .u8 0), .lit (.int .u8 0)], .agg [.lit (.int .u8 0), .lit (.int .u8 0)], .agg [.lit (.int .u8 0), .lit (.int .u8 0)]]
/-- One of Go's own tables, pinned by name: the form's constant. -/
def laid_unicode_utf8_first : DataW Unit := Go.Pinned.utf8First

/-- 'tidewaterlaw23.CrowdLast': WHATEVER THE INPUT: true; the input reads as it did. -/
def crowdLastSpec : ChangeSpec := { name := "crowdLast", fn := fun _ => fun
  | [d] => { results := [.lit (.bool true)], args := [d] }
  | _ => none }
def crowdLastRow : OpenClaim := { program := "ythbejheedpdioaadoor", sum := "d2179c0859fed3ffb52bbcd43d9ff5bdbfeb2d2b281fd29832f4f97129673100", func := "tidewater/tidewaterlaw23.CrowdLast", spec := "crowdLast", inPlace := ["internal/bytealg.IndexByteString", "internal/bytealg.IndexString"], unfollowed := true, recurses := true, named := ["internal/bytealg.MaxLen", "unicode/utf8.first", "unicode/utf8.acceptRanges"], apart := false, laid := [("unicode/utf8.acceptRanges", laid_unicode_utf8_acceptRanges), ("unicode/utf8.first", laid_unicode_utf8_first)] }
def CrowdLastSaid : Prop := crowdLastRow.holds Tryd.pinned (OpenSpec.ofChange crowdLastSpec)

/-- ITS FALSE NEIGHBOUR: 'it returns false'. Refute it at one input. -/
def crowdLastWrong : ChangeSpec := { name := "crowdLast", fn := fun _ => fun
  | [d] => { results := [.lit (.bool false)], args := [d] }
  | _ => none }
def CrowdLastWrongFalsely : Prop := crowdLastRow.holds Tryd.pinned (OpenSpec.ofChange crowdLastWrong)

/-- 'tidewaterlaw23.CrowdCounts': WHATEVER THE INPUT: true; the input reads as it did. -/
def crowdCountsSpec : ChangeSpec := { name := "crowdCounts", fn := fun _ => fun
  | [d] => { results := [.lit (.bool true)], args := [d] }
  | _ => none }
def crowdCountsRow : OpenClaim := { program := "ythbejheedpdioaadoor", sum := "d2179c0859fed3ffb52bbcd43d9ff5bdbfeb2d2b281fd29832f4f97129673100", func := "tidewater/tidewaterlaw23.CrowdCounts", spec := "crowdCounts", inPlace := ["internal/bytealg.IndexByteString", "internal/bytealg.IndexString"], unfollowed := true, recurses := true, named := ["internal/bytealg.MaxLen", "unicode/utf8.first", "unicode/utf8.acceptRanges"], apart := false, laid := [("unicode/utf8.acceptRanges", laid_unicode_utf8_acceptRanges), ("unicode/utf8.first", laid_unicode_utf8_first)] }
def CrowdCountsSaid : Prop := crowdCountsRow.holds Tryd.pinned (OpenSpec.ofChange crowdCountsSpec)

/-- ITS FALSE NEIGHBOUR: 'it returns false'. Refute it at one input. -/
def crowdCountsWrong : ChangeSpec := { name := "crowdCounts", fn := fun _ => fun
  | [d] => { results := [.lit (.bool false)], args := [d] }
  | _ => none }
def CrowdCountsWrongFalsely : Prop := crowdCountsRow.holds Tryd.pinned (OpenSpec.ofChange crowdCountsWrong)

/-- 'tidewaterlaw23.CrowdLeaves': WHATEVER THE INPUT: true; the input reads as it did. -/
def crowdLeavesSpec : ChangeSpec := { name := "crowdLeaves", fn := fun _ => fun
  | [d1, d2] => { results := [.lit (.bool true)], args := [d1, d2] }
  | _ => none }
def crowdLeavesRow : OpenClaim := { program := "ythbejheedpdioaadoor", sum := "d2179c0859fed3ffb52bbcd43d9ff5bdbfeb2d2b281fd29832f4f97129673100", func := "tidewater/tidewaterlaw23.CrowdLeaves", spec := "crowdLeaves", inPlace := ["internal/bytealg.IndexByteString", "internal/bytealg.IndexString"], unfollowed := true, recurses := true, named := ["internal/bytealg.MaxLen", "unicode/utf8.first", "unicode/utf8.acceptRanges"], apart := false, laid := [("unicode/utf8.acceptRanges", laid_unicode_utf8_acceptRanges), ("unicode/utf8.first", laid_unicode_utf8_first)] }
def CrowdLeavesSaid : Prop := crowdLeavesRow.holds Tryd.pinned (OpenSpec.ofChange crowdLeavesSpec)

/-- ITS FALSE NEIGHBOUR: 'it returns false'. Refute it at one input. -/
def crowdLeavesWrong : ChangeSpec := { name := "crowdLeaves", fn := fun _ => fun
  | [d1, d2] => { results := [.lit (.bool false)], args := [d1, d2] }
  | _ => none }
def CrowdLeavesWrongFalsely : Prop := crowdLeavesRow.holds Tryd.pinned (OpenSpec.ofChange crowdLeavesWrong)

/-- 'tidewaterlaw23.CrowdPlays': WHATEVER THE INPUT: true; the input reads as it did. -/
def crowdPlaysSpec : ChangeSpec := { name := "crowdPlays", fn := fun _ => fun
  | [d1, d2] => { results := [.lit (.bool true)], args := [d1, d2] }
  | _ => none }
def crowdPlaysRow : OpenClaim := { program := "ythbejheedpdioaadoor", sum := "d2179c0859fed3ffb52bbcd43d9ff5bdbfeb2d2b281fd29832f4f97129673100", func := "tidewater/tidewaterlaw23.CrowdPlays", spec := "crowdPlays", inPlace := ["internal/bytealg.IndexByteString", "internal/bytealg.IndexString"], unfollowed := true, recurses := true, named := ["internal/bytealg.MaxLen", "unicode/utf8.first", "unicode/utf8.acceptRanges"], apart := false, laid := [("unicode/utf8.acceptRanges", laid_unicode_utf8_acceptRanges), ("unicode/utf8.first", laid_unicode_utf8_first)] }
def CrowdPlaysSaid : Prop := crowdPlaysRow.holds Tryd.pinned (OpenSpec.ofChange crowdPlaysSpec)

/-- ITS FALSE NEIGHBOUR: 'it returns false'. Refute it at one input. -/
def crowdPlaysWrong : ChangeSpec := { name := "crowdPlays", fn := fun _ => fun
  | [d1, d2] => { results := [.lit (.bool false)], args := [d1, d2] }
  | _ => none }
def CrowdPlaysWrongFalsely : Prop := crowdPlaysRow.holds Tryd.pinned (OpenSpec.ofChange crowdPlaysWrong)

/-- 'tidewaterlaw23.CrowdNil': WHATEVER THE INPUT: true; the input reads as it did. -/
def crowdNilSpec : ChangeSpec := { name := "crowdNil", fn := fun _ => fun
  | [d] => { results := [.lit (.bool true)], args := [d] }
  | _ => none }
def crowdNilRow : OpenClaim := { program := "ythbejheedpdioaadoor", sum := "d2179c0859fed3ffb52bbcd43d9ff5bdbfeb2d2b281fd29832f4f97129673100", func := "tidewater/tidewaterlaw23.CrowdNil", spec := "crowdNil", inPlace := ["internal/bytealg.IndexByteString", "internal/bytealg.IndexString"], unfollowed := true, recurses := true, named := ["internal/bytealg.MaxLen", "unicode/utf8.first", "unicode/utf8.acceptRanges"], apart := false, laid := [("unicode/utf8.acceptRanges", laid_unicode_utf8_acceptRanges), ("unicode/utf8.first", laid_unicode_utf8_first)] }
def CrowdNilSaid : Prop := crowdNilRow.holds Tryd.pinned (OpenSpec.ofChange crowdNilSpec)

/-- ITS FALSE NEIGHBOUR: 'it returns false'. Refute it at one input. -/
def crowdNilWrong : ChangeSpec := { name := "crowdNil", fn := fun _ => fun
  | [d] => { results := [.lit (.bool false)], args := [d] }
  | _ => none }
def CrowdNilWrongFalsely : Prop := crowdNilRow.holds Tryd.pinned (OpenSpec.ofChange crowdNilWrong)

/- THE SECOND FORM. 'bulk': how many values and letters a reading holds, each counted each time it is reached (what is shared counts as often as it is met; a slice's spare places count too). A statement '..UptoSaid' is the law's where the arguments, and the package variables that the reading takes, are together of bulk at most 1048576: NARROWER than '..Said'. Prove '..Said' where nothing that the law and all that it calls make is longer than what came in: it says more and counts as full. Else prove '..UptoSaid'. A law counts once. -/
mutual
def uptoBulk {H : Type} : DataW H → Nat
  | .lit (.string bytes) => bytes.length + 1
  | .lit _ => 1
  | .nil => 1
  | .ptr d => uptoBulk d + 1
  | .slice elems spare => uptoBulkAll elems + uptoBulkAll spare + 1
  | .agg parts => uptoBulkAll parts + 1
  | .iface _ d => uptoBulk d + 1
  | .map entries => uptoBulkEntries entries + 1
  | .held _ => 1
def uptoBulkAll {H : Type} : List (DataW H) → Nat
  | [] => 0
  | d :: r => uptoBulk d + uptoBulkAll r
def uptoBulkEntries {H : Type} : List (Lit × DataW H) → Nat
  | [] => 0
  | x :: r => uptoBulkEntry x + uptoBulkEntries r
def uptoBulkEntry {H : Type} : Lit × DataW H → Nat
  | (.string bytes, d) => bytes.length + uptoBulk d + 1
  | (_, d) => uptoBulk d + 1
 end
def uptoSmall : (H : Type) → List (DataW H) → Bool := fun _ ds => decide (uptoBulkAll ds ≤ 1048576)
def OpenSpec.upto (s : _root_.Go.ChangeSpec) : _root_.Go.OpenSpec := { _root_.Go.OpenSpec.ofChange s with cond := some uptoSmall }

/-- 'tidewaterlaw23.CrowdLast', WHERE WHAT IT READS IS OF BULK AT MOST 1048576: true; the input reads as it did. -/
def crowdLastUptoRow : OpenClaim := { program := "ythbejheedpdioaadoor", sum := "d2179c0859fed3ffb52bbcd43d9ff5bdbfeb2d2b281fd29832f4f97129673100", func := "tidewater/tidewaterlaw23.CrowdLast", spec := "crowdLast", inPlace := ["internal/bytealg.IndexByteString", "internal/bytealg.IndexString"], unfollowed := true, recurses := true, named := ["internal/bytealg.MaxLen", "unicode/utf8.first", "unicode/utf8.acceptRanges"], apart := false, laid := [("unicode/utf8.acceptRanges", laid_unicode_utf8_acceptRanges), ("unicode/utf8.first", laid_unicode_utf8_first)], narrowed := true }
def CrowdLastUptoSaid : Prop := crowdLastUptoRow.holds Tryd.pinned (OpenSpec.upto crowdLastSpec)

/-- 'tidewaterlaw23.CrowdCounts', WHERE WHAT IT READS IS OF BULK AT MOST 1048576: true; the input reads as it did. -/
def crowdCountsUptoRow : OpenClaim := { program := "ythbejheedpdioaadoor", sum := "d2179c0859fed3ffb52bbcd43d9ff5bdbfeb2d2b281fd29832f4f97129673100", func := "tidewater/tidewaterlaw23.CrowdCounts", spec := "crowdCounts", inPlace := ["internal/bytealg.IndexByteString", "internal/bytealg.IndexString"], unfollowed := true, recurses := true, named := ["internal/bytealg.MaxLen", "unicode/utf8.first", "unicode/utf8.acceptRanges"], apart := false, laid := [("unicode/utf8.acceptRanges", laid_unicode_utf8_acceptRanges), ("unicode/utf8.first", laid_unicode_utf8_first)], narrowed := true }
def CrowdCountsUptoSaid : Prop := crowdCountsUptoRow.holds Tryd.pinned (OpenSpec.upto crowdCountsSpec)

/-- 'tidewaterlaw23.CrowdLeaves', WHERE WHAT IT READS IS OF BULK AT MOST 1048576: true; the input reads as it did. -/
def crowdLeavesUptoRow : OpenClaim := { program := "ythbejheedpdioaadoor", sum := "d2179c0859fed3ffb52bbcd43d9ff5bdbfeb2d2b281fd29832f4f97129673100", func := "tidewater/tidewaterlaw23.CrowdLeaves", spec := "crowdLeaves", inPlace := ["internal/bytealg.IndexByteString", "internal/bytealg.IndexString"], unfollowed := true, recurses := true, named := ["internal/bytealg.MaxLen", "unicode/utf8.first", "unicode/utf8.acceptRanges"], apart := false, laid := [("unicode/utf8.acceptRanges", laid_unicode_utf8_acceptRanges), ("unicode/utf8.first", laid_unicode_utf8_first)], narrowed := true }
def CrowdLeavesUptoSaid : Prop := crowdLeavesUptoRow.holds Tryd.pinned (OpenSpec.upto crowdLeavesSpec)

/-- 'tidewaterlaw23.CrowdPlays', WHERE WHAT IT READS IS OF BULK AT MOST 1048576: true; the input reads as it did. -/
def crowdPlaysUptoRow : OpenClaim := { program := "ythbejheedpdioaadoor", sum := "d2179c0859fed3ffb52bbcd43d9ff5bdbfeb2d2b281fd29832f4f97129673100", func := "tidewater/tidewaterlaw23.CrowdPlays", spec := "crowdPlays", inPlace := ["internal/bytealg.IndexByteString", "internal/bytealg.IndexString"], unfollowed := true, recurses := true, named := ["internal/bytealg.MaxLen", "unicode/utf8.first", "unicode/utf8.acceptRanges"], apart := false, laid := [("unicode/utf8.acceptRanges", laid_unicode_utf8_acceptRanges), ("unicode/utf8.first", laid_unicode_utf8_first)], narrowed := true }
def CrowdPlaysUptoSaid : Prop := crowdPlaysUptoRow.holds Tryd.pinned (OpenSpec.upto crowdPlaysSpec)

/-- 'tidewaterlaw23.CrowdNil', WHERE WHAT IT READS IS OF BULK AT MOST 1048576: true; the input reads as it did. -/
def crowdNilUptoRow : OpenClaim := { program := "ythbejheedpdioaadoor", sum := "d2179c0859fed3ffb52bbcd43d9ff5bdbfeb2d2b281fd29832f4f97129673100", func := "tidewater/tidewaterlaw23.CrowdNil", spec := "crowdNil", inPlace := ["internal/bytealg.IndexByteString", "internal/bytealg.IndexString"], unfollowed := true, recurses := true, named := ["internal/bytealg.MaxLen", "unicode/utf8.first", "unicode/utf8.acceptRanges"], apart := false, laid := [("unicode/utf8.acceptRanges", laid_unicode_utf8_acceptRanges), ("unicode/utf8.first", laid_unicode_utf8_first)], narrowed := true }
def CrowdNilUptoSaid : Prop := crowdNilUptoRow.holds Tryd.pinned (OpenSpec.upto crowdNilSpec)

end Rows
end Go.Proofs.YthbejheedpdioaaDoor
