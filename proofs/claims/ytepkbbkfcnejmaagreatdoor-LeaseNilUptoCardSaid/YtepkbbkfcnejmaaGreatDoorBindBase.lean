import Derived.Test.YtepkbbkfcnejmaaGreatDoorAmLib
import Derived.Test.YtepkbbkfcnejmaaGreatDoorAmTypes
import Derived.KernelRfl
set_option linter.unusedSimpArgs false
set_option linter.unusedVariables false
namespace Go.Proofs.YtepkbbkfcnejmaaGreatDoor
open Go Go.AM Go.RowKit
theorem mixed : Tryz.prog.follows .mixedOrders = true := by kernel_rfl
abbrev PE := List AV → (AV → Prop) → Prop
end Go.Proofs.YtepkbbkfcnejmaaGreatDoor
