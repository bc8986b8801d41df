import Derived.Test.YtepkbbkfcnejmaaGreatDoorFrame2
set_option linter.unusedSimpArgs false
set_option linter.unusedVariables false
namespace Go.Proofs.YtepkbbkfcnejmaaGreatDoor
open Go Go.AM Go.RowKit
section
variable {P : Program}
end
end Go.Proofs.YtepkbbkfcnejmaaGreatDoor
