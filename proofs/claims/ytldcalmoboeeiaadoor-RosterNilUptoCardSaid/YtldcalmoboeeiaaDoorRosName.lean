import Derived.Test.YtldcalmoboeeiaaDoorRosTurn4
import Derived.Test.YtldcalmoboeeiaaDoorTagsLib
set_option linter.unusedSimpArgs false
set_option linter.unusedVariables false
namespace Go.Proofs.YtldcalmoboeeiaaDoor
open Go Go.AM Go.RowKit
attribute [local irreducible] aCode aUnr aUnS aOut
/-- signs.Right. -/
def FSR : List AV → Option (Prop × AV) := fun al => match al with
  | [.d (.v (.string s))] => some (s.size ≤ LIM, mkI .i64 (if rightB s = true then 0 else 2))
  | _ => none
theorem cSR : PSound Tryd.prog 51 (detE FSR) := by
  refine ps1t Tryd.call51 fun al q h => ?_
  unfold detE at h
  split at h
  · rename_i p r hF
    unfold FSR at hF; split at hF <;> cases hF
    rename_i s
    refine ⟨_, rfl, fun p0 w hT => ?_⟩
    exact (right_calls s w (by simpa [plainV] using p0) hT).mono fun e w' ⟨h1, h2⟩ => ⟨_, _, h1, h.2, fun X => mkI_rel, h2⟩
  · exact h.elim
end Go.Proofs.YtldcalmoboeeiaaDoor
