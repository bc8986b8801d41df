import Derived.Test.YtldcalmoboeeiaaDoorRosDoA
set_option linter.unusedSimpArgs false
set_option linter.unusedVariables false
namespace Go.Proofs.YtldcalmoboeeiaaDoor
open Go Go.AM Go.RowKit
attribute [local irreducible] aCode aUnr aUnS aOut
section
attribute [local irreducible] kSeq sealAll
end
end Go.Proofs.YtldcalmoboeeiaaDoor
