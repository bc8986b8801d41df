import Derived.Test.YtchpfeblinnoiaaGreatDoorTrEsp
import Derived.Test.YtchpfeblinnoiaaGreatDoorTagsLib
set_option linter.unusedSimpArgs false
set_option linter.unusedVariables false
namespace Go.Proofs.YtchpfeblinnoiaaGreatDoor
open Go Go.AM Go.RowKit
end Go.Proofs.YtchpfeblinnoiaaGreatDoor
