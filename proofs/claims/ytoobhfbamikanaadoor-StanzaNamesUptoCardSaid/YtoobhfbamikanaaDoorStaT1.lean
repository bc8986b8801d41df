import Derived.Test.YtoobhfbamikanaaDoorStaT0
set_option linter.unusedSimpArgs false
set_option linter.unusedVariables false
namespace Go.Proofs.YtoobhfbamikanaaDoor
open Go Go.AM Go.RowKit
attribute [local irreducible] aCode aUnr aUnS aOut
def shIq : Tst := [(kType, wordB), (kId, wordB)]
def shQuery : Tst := [(kVer, numB)]
def shJid : Tst := [(kJid, userB)]
theorem not_mem_of {x : BA} {l : List BA} (h : memB x l = false) : x ∉ l := fun hm => by rw [(memB_iff _ _).2 hm] at h; cases h
def EOne1 : REnt := fun al o q => ∃ l x, al = [mkS x, .rf 0 0] ∧ o = [.box [mkSS l], .gh [.rf 0 0]] ∧ x.size ≤ LIM ∧ q (mkB (oneB l x)) o
noncomputable abbrev GF : List (FuncId × En) := [(38, .det (strF wordB)), (40, .det (strF cntB)), (59, .det (strF numB)), (14, .det (strF userB)), (34, .det (strF placeB)), (55, .ref (frameX EOne1))]
end Go.Proofs.YtoobhfbamikanaaDoor
