import Derived.Test.YthbejheedpdioaaDoorAmLib
import Derived.Test.YthbejheedpdioaaDoorAmTypes
import Derived.KernelRfl
set_option linter.unusedSimpArgs false
set_option linter.unusedVariables false
namespace Go.Proofs.YthbejheedpdioaaDoor
open Go Go.AM Go.RowKit
theorem mixed : Tryd.prog.follows .mixedOrders = true := by kernel_rfl
abbrev PE := List AV → (AV → Prop) → Prop
end Go.Proofs.YthbejheedpdioaaDoor
