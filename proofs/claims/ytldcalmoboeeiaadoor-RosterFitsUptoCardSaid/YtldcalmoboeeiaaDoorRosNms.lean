import Derived.Test.YtldcalmoboeeiaaDoorRosVers
set_option linter.unusedSimpArgs false
set_option linter.unusedVariables false
namespace Go.Proofs.YtldcalmoboeeiaaDoor
open Go Go.AM Go.RowKit
end Go.Proofs.YtldcalmoboeeiaaDoor

namespace Go.Proofs.YtldcalmoboeeiaaDoor
open Go Go.AM Go.RowKit
attribute [local irreducible] aCode aUnr aUnS aOut
noncomputable abbrev KR : TypeId → Option TK := runK Tryd.K
theorem KR_ok : KOk Tryd.prog KR := runK_ok Tryd.K_ok
end Go.Proofs.YtldcalmoboeeiaaDoor
