/-
  NARROWER THAN 'FOR EVERY INPUT', by the rows' own cells (each row's printed sentence says how): LeaseEvicts: laid · LeaseDeadline: laid · LeaseStays: laid · LeaseBounds: laid · LeaseNil: laid.
  DERIVED. THE GIVEN ROWS OF THIS SEAT. 5 by the template 'for every input the law returns true; each argument reads behind the call as it read before'; 0 by the template 'total and deterministic' (their statements: YtepkbbkfcnejmaaDoorTotals.lean).
  GIVEN WITH THE SEED: the statements are not yours to turn. If you find one false, say at which input.
  Laid BY PROGRAM, IN A SANDBOX (cutbox-rows.mjs): the forced cells as the released guide's own fill.sh prints them over the translation 36626c6951e69e82… (all of the seat's roots in one cut). By AI agents, Wed Nov 11 2026. No macro, syntax, notation, axiom, sorry.
-/
import Derived.Test.YtepkbbkfcnejmaaDoorChecked
import GoSem.PinnedTables
import GoSem.Claim
import GoSem.ClaimJoined
import GoSem.ClaimMapViews
import Derived.JoinedTies
import Derived.KernelRfl
namespace Go.Proofs.YtepkbbkfcnejmaaDoor
/- THE CELL 'sum', in the pinned program and in every row, IS THE sha256 OF THE DUMP (.gsa) THAT YtepkbbkfcnejmaaDoorProg.lean LOADS. Nothing in Lean hashes anything: it is a label: what it is worth is what the hold of that sum in a sandbox is worth. -/
noncomputable def Tryd.pinned : Pinned := { name := "ytepkbbkfcnejmaadoor", sum := "36626c6951e69e8260923e8cc5a5beeb291ba5f91b9f2e984a1a2c7fc7c8b522", checked := Tryd.checked }
namespace Rows
def none {H : Type} : Left H := { results := [], args := [] }

/- WHAT THE LISTED PACKAGE-LEVEL VARIABLES READ AS WHEN THE CALL BEGINS. Each datum BY PROGRAM (the guide's laid-datum.mjs) off the statement by which the dump's own 'gosem.cut.vars' lays the variable. In a bare row this is a premise. The card (YtepkbbkfcnejmaaDoorCards.lean) ties it to the program's text. -/
def laid_unicode_utf8_acceptRanges {H : Type} : DataW H := .agg [.agg [.lit (.int .u8 128), .lit (.int .u8 191)], .agg [.lit (.int .u8 160), .lit (.int .u8 191)], .agg [.lit (.int .u8 128), .lit (.int .u8 159)], .agg [.lit (.int .u8 144), .lit (.int .u8 191)], .agg [.lit (.int .u8 128), .lit (.int .u8 143)], .agg [.lit (.int .u8 0), .lit (.int .u8 0)], .agg [.lit (.int .u8 0), .lit (.int .u8 0)], .agg [.lit (.int .u8 0), .lit (.int .u8 0)], .agg [.lit (.int .u8 0), .lit (.int .u8 0)], .agg [.lit (.int .u8 0), .lit (.int .u8 0)], .agg [.lit (.int .u8 0), .lit (.int .u8 0)], .agg [.lit (.int .u8 0), .lit (.int .u8 0)], .agg [.lit (.int .u8 0), .lit (.int .u8 0)], .agg [.lit (.int .u8 0), .lit (.int .u8 0)], .agg [.lit (.int .u8 0), .lit (.int .u8 0)], .agg [.lit (.int .u8 0), .lit (.int .u8 0)]]
/-- One of Go's own tables, pinned by name: the form's constant. -/
def laid_unicode_utf8_first : DataW Unit := Go.Pinned.utf8First

/-- 'tidewaterlaw15.LeaseEvicts': WHATEVER THE INPUT: true; the input reads as it did. -/
def leaseEvictsSpec : ChangeSpec := { name := "leaseEvicts", fn := fun _ => fun
  | [d1, d2, d3] => { results := [.lit (.bool true)], args := [d1, d2, d3] }
  | _ => none }
def leaseEvictsRow : OpenClaim := { program := "ytepkbbkfcnejmaadoor", sum := "36626c6951e69e8260923e8cc5a5beeb291ba5f91b9f2e984a1a2c7fc7c8b522", func := "tidewater/tidewaterlaw15.LeaseEvicts", spec := "leaseEvicts", inPlace := ["internal/bytealg.IndexByteString", "internal/bytealg.IndexString"], unfollowed := true, recurses := true, named := ["unicode/utf8.first", "unicode/utf8.acceptRanges", "internal/bytealg.MaxLen"], apart := false, laid := [("unicode/utf8.acceptRanges", laid_unicode_utf8_acceptRanges), ("unicode/utf8.first", laid_unicode_utf8_first)] }
def LeaseEvictsSaid : Prop := leaseEvictsRow.holds Tryd.pinned (OpenSpec.ofChange leaseEvictsSpec)

/-- ITS FALSE NEIGHBOUR: 'it returns false'. Refute it at one input. -/
def leaseEvictsWrong : ChangeSpec := { name := "leaseEvicts", fn := fun _ => fun
  | [d1, d2, d3] => { results := [.lit (.bool false)], args := [d1, d2, d3] }
  | _ => none }
def LeaseEvictsWrongFalsely : Prop := leaseEvictsRow.holds Tryd.pinned (OpenSpec.ofChange leaseEvictsWrong)

/-- 'tidewaterlaw15.LeaseDeadline': WHATEVER THE INPUT: true; the input reads as it did. -/
def leaseDeadlineSpec : ChangeSpec := { name := "leaseDeadline", fn := fun _ => fun
  | [d1, d2, d3] => { results := [.lit (.bool true)], args := [d1, d2, d3] }
  | _ => none }
def leaseDeadlineRow : OpenClaim := { program := "ytepkbbkfcnejmaadoor", sum := "36626c6951e69e8260923e8cc5a5beeb291ba5f91b9f2e984a1a2c7fc7c8b522", func := "tidewater/tidewaterlaw15.LeaseDeadline", spec := "leaseDeadline", inPlace := ["internal/bytealg.IndexByteString", "internal/bytealg.IndexString"], unfollowed := true, recurses := true, named := ["unicode/utf8.first", "unicode/utf8.acceptRanges", "internal/bytealg.MaxLen"], apart := false, laid := [("unicode/utf8.acceptRanges", laid_unicode_utf8_acceptRanges), ("unicode/utf8.first", laid_unicode_utf8_first)] }
def LeaseDeadlineSaid : Prop := leaseDeadlineRow.holds Tryd.pinned (OpenSpec.ofChange leaseDeadlineSpec)

/-- ITS FALSE NEIGHBOUR: 'it returns false'. Refute it at one input. -/
def leaseDeadlineWrong : ChangeSpec := { name := "leaseDeadline", fn := fun _ => fun
  | [d1, d2, d3] => { results := [.lit (.bool false)], args := [d1, d2, d3] }
  | _ => none }
def LeaseDeadlineWrongFalsely : Prop := leaseDeadlineRow.holds Tryd.pinned (OpenSpec.ofChange leaseDeadlineWrong)

/-- 'tidewaterlaw15.LeaseStays': WHATEVER THE INPUT: true; the input reads as it did. -/
def leaseStaysSpec : ChangeSpec := { name := "leaseStays", fn := fun _ => fun
  | [d] => { results := [.lit (.bool true)], args := [d] }
  | _ => none }
def leaseStaysRow : OpenClaim := { program := "ytepkbbkfcnejmaadoor", sum := "36626c6951e69e8260923e8cc5a5beeb291ba5f91b9f2e984a1a2c7fc7c8b522", func := "tidewater/tidewaterlaw15.LeaseStays", spec := "leaseStays", inPlace := ["internal/bytealg.IndexByteString", "internal/bytealg.IndexString"], unfollowed := true, recurses := true, named := ["unicode/utf8.first", "unicode/utf8.acceptRanges", "internal/bytealg.MaxLen"], apart := false, laid := [("unicode/utf8.acceptRanges", laid_unicode_utf8_acceptRanges), ("unicode/utf8.first", laid_unicode_utf8_first)] }
def LeaseStaysSaid : Prop := leaseStaysRow.holds Tryd.pinned (OpenSpec.ofChange leaseStaysSpec)

/-- ITS FALSE NEIGHBOUR: 'it returns false'. Refute it at one input. -/
def leaseStaysWrong : ChangeSpec := { name := "leaseStays", fn := fun _ => fun
  | [d] => { results := [.lit (.bool false)], args := [d] }
  | _ => none }
def LeaseStaysWrongFalsely : Prop := leaseStaysRow.holds Tryd.pinned (OpenSpec.ofChange leaseStaysWrong)

/-- 'tidewaterlaw15.LeaseBounds': WHATEVER THE INPUT: true; the input reads as it did. -/
def leaseBoundsSpec : ChangeSpec := { name := "leaseBounds", fn := fun _ => fun
  | [d1, d2] => { results := [.lit (.bool true)], args := [d1, d2] }
  | _ => none }
def leaseBoundsRow : OpenClaim := { program := "ytepkbbkfcnejmaadoor", sum := "36626c6951e69e8260923e8cc5a5beeb291ba5f91b9f2e984a1a2c7fc7c8b522", func := "tidewater/tidewaterlaw15.LeaseBounds", spec := "leaseBounds", inPlace := ["internal/bytealg.IndexByteString", "internal/bytealg.IndexString"], unfollowed := true, recurses := true, named := ["unicode/utf8.first", "unicode/utf8.acceptRanges", "internal/bytealg.MaxLen"], apart := false, laid := [("unicode/utf8.acceptRanges", laid_unicode_utf8_acceptRanges), ("unicode/utf8.first", laid_unicode_utf8_first)] }
def LeaseBoundsSaid : Prop := leaseBoundsRow.holds Tryd.pinned (OpenSpec.ofChange leaseBoundsSpec)

/-- ITS FALSE NEIGHBOUR: 'it returns false'. Refute it at one input. -/
def leaseBoundsWrong : ChangeSpec := { name := "leaseBounds", fn := fun _ => fun
  | [d1, d2] => { results := [.lit (.bool false)], args := [d1, d2] }
  | _ => none }
def LeaseBoundsWrongFalsely : Prop := leaseBoundsRow.holds Tryd.pinned (OpenSpec.ofChange leaseBoundsWrong)

/-- 'tidewaterlaw15.LeaseNil': WHATEVER THE INPUT: true; the input reads as it did. -/
def leaseNilSpec : ChangeSpec := { name := "leaseNil", fn := fun _ => fun
  | [d] => { results := [.lit (.bool true)], args := [d] }
  | _ => none }
def leaseNilRow : OpenClaim := { program := "ytepkbbkfcnejmaadoor", sum := "36626c6951e69e8260923e8cc5a5beeb291ba5f91b9f2e984a1a2c7fc7c8b522", func := "tidewater/tidewaterlaw15.LeaseNil", spec := "leaseNil", inPlace := ["internal/bytealg.IndexByteString", "internal/bytealg.IndexString"], unfollowed := true, recurses := true, named := ["unicode/utf8.first", "unicode/utf8.acceptRanges", "internal/bytealg.MaxLen"], apart := false, laid := [("unicode/utf8.acceptRanges", laid_unicode_utf8_acceptRanges), ("unicode/utf8.first", laid_unicode_utf8_first)] }
def LeaseNilSaid : Prop := leaseNilRow.holds Tryd.pinned (OpenSpec.ofChange leaseNilSpec)

/-- ITS FALSE NEIGHBOUR: 'it returns false'. Refute it at one input. -/
def leaseNilWrong : ChangeSpec := { name := "leaseNil", fn := fun _ => fun
  | [d] => { results := [.lit (.bool false)], args := [d] }
  | _ => none }
def LeaseNilWrongFalsely : Prop := leaseNilRow.holds Tryd.pinned (OpenSpec.ofChange leaseNilWrong)

/- THE SECOND FORM. 'bulk': how many values and letters a reading holds, each counted each time it is reached (what is shared counts as often as it is met; a slice's spare places count too). A statement '..UptoSaid' is the law's where the arguments, and the package variables that the reading takes, are together of bulk at most 1048576: NARROWER than '..Said'. Prove '..Said' where nothing that the law and all that it calls make is longer than what came in: it says more and counts as full. Else prove '..UptoSaid'. A law counts once. -/
mutual
def uptoBulk {H : Type} : DataW H → Nat
  | .lit (.string bytes) => bytes.length + 1
  | .lit _ => 1
  | .nil => 1
  | .ptr d => uptoBulk d + 1
  | .slice elems spare => uptoBulkAll elems + uptoBulkAll spare + 1
  | .agg parts => uptoBulkAll parts + 1
  | .iface _ d => uptoBulk d + 1
  | .map entries => uptoBulkEntries entries + 1
  | .held _ => 1
def uptoBulkAll {H : Type} : List (DataW H) → Nat
  | [] => 0
  | d :: r => uptoBulk d + uptoBulkAll r
def uptoBulkEntries {H : Type} : List (Lit × DataW H) → Nat
  | [] => 0
  | x :: r => uptoBulkEntry x + uptoBulkEntries r
def uptoBulkEntry {H : Type} : Lit × DataW H → Nat
  | (.string bytes, d) => bytes.length + uptoBulk d + 1
  | (_, d) => uptoBulk d + 1
 end
def uptoSmall : (H : Type) → List (DataW H) → Bool := fun _ ds => decide (uptoBulkAll ds ≤ 1048576)
def OpenSpec.upto (s : _root_.Go.ChangeSpec) : _root_.Go.OpenSpec := { _root_.Go.OpenSpec.ofChange s with cond := some uptoSmall }

/-- 'tidewaterlaw15.LeaseEvicts', WHERE WHAT IT READS IS OF BULK AT MOST 1048576: true; the input reads as it did. -/
def leaseEvictsUptoRow : OpenClaim := { program := "ytepkbbkfcnejmaadoor", sum := "36626c6951e69e8260923e8cc5a5beeb291ba5f91b9f2e984a1a2c7fc7c8b522", func := "tidewater/tidewaterlaw15.LeaseEvicts", spec := "leaseEvicts", inPlace := ["internal/bytealg.IndexByteString", "internal/bytealg.IndexString"], unfollowed := true, recurses := true, named := ["unicode/utf8.first", "unicode/utf8.acceptRanges", "internal/bytealg.MaxLen"], apart := false, laid := [("unicode/utf8.acceptRanges", laid_unicode_utf8_acceptRanges), ("unicode/utf8.first", laid_unicode_utf8_first)], narrowed := true }
def LeaseEvictsUptoSaid : Prop := leaseEvictsUptoRow.holds Tryd.pinned (OpenSpec.upto leaseEvictsSpec)

/-- 'tidewaterlaw15.LeaseDeadline', WHERE WHAT IT READS IS OF BULK AT MOST 1048576: true; the input reads as it did. -/
def leaseDeadlineUptoRow : OpenClaim := { program := "ytepkbbkfcnejmaadoor", sum := "36626c6951e69e8260923e8cc5a5beeb291ba5f91b9f2e984a1a2c7fc7c8b522", func := "tidewater/tidewaterlaw15.LeaseDeadline", spec := "leaseDeadline", inPlace := ["internal/bytealg.IndexByteString", "internal/bytealg.IndexString"], unfollowed := true, recurses := true, named := ["unicode/utf8.first", "unicode/utf8.acceptRanges", "internal/bytealg.MaxLen"], apart := false, laid := [("unicode/utf8.acceptRanges", laid_unicode_utf8_acceptRanges), ("unicode/utf8.first", laid_unicode_utf8_first)], narrowed := true }
def LeaseDeadlineUptoSaid : Prop := leaseDeadlineUptoRow.holds Tryd.pinned (OpenSpec.upto leaseDeadlineSpec)

/-- 'tidewaterlaw15.LeaseStays', WHERE WHAT IT READS IS OF BULK AT MOST 1048576: true; the input reads as it did. -/
def leaseStaysUptoRow : OpenClaim := { program := "ytepkbbkfcnejmaadoor", sum := "36626c6951e69e8260923e8cc5a5beeb291ba5f91b9f2e984a1a2c7fc7c8b522", func := "tidewater/tidewaterlaw15.LeaseStays", spec := "leaseStays", inPlace := ["internal/bytealg.IndexByteString", "internal/bytealg.IndexString"], unfollowed := true, recurses := true, named := ["unicode/utf8.first", "unicode/utf8.acceptRanges", "internal/bytealg.MaxLen"], apart := false, laid := [("unicode/utf8.acceptRanges", laid_unicode_utf8_acceptRanges), ("unicode/utf8.first", laid_unicode_utf8_first)], narrowed := true }
def LeaseStaysUptoSaid : Prop := leaseStaysUptoRow.holds Tryd.pinned (OpenSpec.upto leaseStaysSpec)

/-- 'tidewaterlaw15.LeaseBounds', WHERE WHAT IT READS IS OF BULK AT MOST 1048576: true; the input reads as it did. -/
def leaseBoundsUptoRow : OpenClaim := { program := "ytepkbbkfcnejmaadoor", sum := "36626c6951e69e8260923e8cc5a5beeb291ba5f91b9f2e984a1a2c7fc7c8b522", func := "tidewater/tidewaterlaw15.LeaseBounds", spec := "leaseBounds", inPlace := ["internal/bytealg.IndexByteString", "internal/bytealg.IndexString"], unfollowed := true, recurses := true, named := ["unicode/utf8.first", "unicode/utf8.acceptRanges", "internal/bytealg.MaxLen"], apart := false, laid := [("unicode/utf8.acceptRanges", laid_unicode_utf8_acceptRanges), ("unicode/utf8.first", laid_unicode_utf8_first)], narrowed := true }
def LeaseBoundsUptoSaid : Prop := leaseBoundsUptoRow.holds Tryd.pinned (OpenSpec.upto leaseBoundsSpec)

/-- 'tidewaterlaw15.LeaseNil', WHERE WHAT IT READS IS OF BULK AT MOST 1048576: true; the input reads as it did. -/
def leaseNilUptoRow : OpenClaim := { program := "ytepkbbkfcnejmaadoor", sum := "36626c6951e69e8260923e8cc5a5beeb291ba5f91b9f2e984a1a2c7fc7c8b522", func := "tidewater/tidewaterlaw15.LeaseNil", spec := "leaseNil", inPlace := ["internal/bytealg.IndexByteString", "internal/bytealg.IndexString"], unfollowed := true, recurses := true, named := ["unicode/utf8.first", "unicode/utf8.acceptRanges", "internal/bytealg.MaxLen"], apart := false, laid := [("unicode/utf8.acceptRanges", laid_unicode_utf8_acceptRanges), ("unicode/utf8.first", laid_unicode_utf8_first)], narrowed := true }
def LeaseNilUptoSaid : Prop := leaseNilUptoRow.holds Tryd.pinned (OpenSpec.upto leaseNilSpec)

end Rows
end Go.Proofs.YtepkbbkfcnejmaaDoor
