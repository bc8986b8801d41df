import Derived.Test.YtchpfeblinnoiaaGreatDoorAmLib
import Derived.Test.YtchpfeblinnoiaaGreatDoorAmTypes
import Derived.KernelRfl
set_option linter.unusedSimpArgs false
set_option linter.unusedVariables false
namespace Go.Proofs.YtchpfeblinnoiaaGreatDoor
open Go Go.AM Go.RowKit
theorem mixed : Tryz.prog.follows .mixedOrders = true := by kernel_rfl
end Go.Proofs.YtchpfeblinnoiaaGreatDoor
