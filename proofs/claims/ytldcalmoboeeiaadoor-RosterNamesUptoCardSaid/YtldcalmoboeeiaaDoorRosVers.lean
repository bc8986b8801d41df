import Derived.Test.YtldcalmoboeeiaaDoorRosVer
import Derived.Test.YtldcalmoboeeiaaDoorFrame4
set_option linter.unusedSimpArgs false
set_option linter.unusedVariables false
namespace Go.Proofs.YtldcalmoboeeiaaDoor
open Go Go.AM Go.RowKit
attribute [local irreducible] aCode aUnr aUnS aOut
end Go.Proofs.YtldcalmoboeeiaaDoor
