import Derived.Test.YtldcalmoboeeiaaDoorAmFn
set_option linter.unusedSimpArgs false
set_option linter.unusedVariables false
set_option linter.unnecessarySimpa false
namespace Go.AM
open Go.RowKit
theorem gsound_ref {P : Program} {f : FuncId} {E : List AV → List Ob → (AV → List Ob → Prop) → Prop} {Γ : List (FuncId × En)} (h : RSound P f E) (hΓ : GSound P Γ) : GSound P ((f, .ref E) :: Γ) := gsound_cons (e := .ref E) h hΓ
end Go.AM
